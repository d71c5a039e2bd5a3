/-
  The document's own cut and number of layer 8, walked.
-/
import Derived.Test.YtcplmaffccfbdaaGreatDoorPback
namespace Go.Proofs.YtcplmaffccfbdaaGreatDoor.M
open Go.RowKit
attribute [local go_sem] stk_nil stk_skip stk_ops stk_seq stk_block stk_scope stk_exit stk_ret stk_code_exit stk_code_ret stk_ops_exit stk_ops_ret stk_endb stk_endb_exit stk_endb_ret stk_endl stk_endl_exit stk_endl_ret stk_ops_nil stk_q stk_niq niqA flip srcOf stk_bsl side val bside bval uside uval cside cval bndS bndV intA isInt lside lval fside fval faside faval iside ival sxside sxval sizeA slside slval llside llval lenside lenval lenA tupA mmside mmval nkside boolA isBool ev_t ev_c tget put_s put_n lkside lkval menval stk_mk Option.isSome_some isMapA mapA keyA FZ_rfl FZ_any retOf true_and and_true if_true if_false decide_true decide_false Bool.not_true Bool.not_false Nat.zero_add List.map_cons List.map_nil Int.toNat_natCast strRows_len intRows_len List.getD_cons_zero List.getD_cons_succ List.length_cons List.length_nil List.forall_mem_cons List.not_mem_nil false_implies implies_true Int.ofNat_zero Int.natCast_add Int.natCast_one Int.ofNat_one Int.natCast_zero isB isU Bool.false_eq_true beq_self_eq_true Bool.false_beq Bool.true_beq Int.natCast_nonneg undef strRows_take strRows_drop Int.toNat_zero List.drop_zero Bool.and_true oneOr List.all_cons List.all_nil AVal.one Value.oneCell' Bool.true_and List.take_length stk_st' stside stH hp_self hp_hp isnside isnval
set_option linter.unusedVariables false
set_option linter.unusedSimpArgs false
theorem bt_c {s : Str} {c : UInt8} {k : Nat} (hk : k < (bl s).length) : bt s (k : Int) = (c.toNat : Int) ↔ (bl s)[k] = c := by
  rw [bt_get hk]
  constructor
  · intro h; exact UInt8.toNat_inj.1 (by omega)
  · intro h; rw [h]
theorem cut_part {l : List UInt8} {c : UInt8} {f i : Nat} (hn : ∀ k (hk : k < l.length), f ≤ k → k < i → l[k] ≠ c) : c ∉ (l.take i).drop f := fun hm => by
  obtain ⟨j, hj, e⟩ := List.getElem_of_mem hm
  rw [List.length_drop, List.length_take] at hj
  rw [List.getElem_drop, List.getElem_take] at e
  exact hn (f + j) (by omega) (by omega) (by omega) e
theorem cut_step {l : List UInt8} {c : UInt8} {f i : Nat} (h : f ≤ i) (hi : i < l.length) (hc : l[i] = c) (hn : ∀ k (hk : k < l.length), f ≤ k → k < i → l[k] ≠ c) : cutL c (l.drop f) = (l.take i).drop f :: cutL c (l.drop (i + 1)) := by
  have e : l.drop f = (l.take i).drop f ++ c :: l.drop (i + 1) := by
    rw [← hc, ← List.drop_eq_getElem_cons hi, ← List.drop_append_of_le_length (by rw [List.length_take]; omega), List.take_append_drop]
  rw [e, cutL_app c _ _ (cut_part hn)]
theorem cut_last {l : List UInt8} {c : UInt8} {f : Nat} (hn : ∀ k (hk : k < l.length), f ≤ k → k < l.length → l[k] ≠ c) : cutL c (l.drop f) = [(l.take l.length).drop f] := by
  have h := cut_part (i := l.length) hn
  rw [List.take_length] at h ⊢
  exact cutL_no c _ h
def c_rcut : AFn := ⟨2, 35, [4],
  .seq (.ops [⟨(some 4), none, .q (.mv (.const (.slice none 0 0)))⟩])
  (.seq (.ops [⟨(some 5), none, .q (.mv (.const (.slice none 0 0)))⟩])
  (.seq (.ops [⟨(some 6), none, .q (.mv (.const (.int .i64 0)))⟩])
  (.seq (.seq (.ops [⟨(some 7), none, .q (.mv (.const (.int .i64 0)))⟩])
  (.block 0 (.loop (.seq (.seq (.ops [⟨(some 8), none, .q (.mv (.tmp 7))⟩,
          ⟨(some 9), none, .q (.mv (.tmp 0))⟩,
          ⟨(some 10), none, .q (.len true (.tmp 9))⟩,
          ⟨(some 11), none, .q (.bin .leq .num (.tmp 8) (.tmp 10))⟩])
      (.cond (.tmp 11)
        (.skip)
        (.exit 0)))
      (.seq (.block 1 (.seq (.ops [⟨(some 14), none, .q (.mv (.tmp 7))⟩,
            ⟨(some 15), none, .q (.mv (.tmp 0))⟩,
            ⟨(some 16), none, .q (.len true (.tmp 15))⟩,
            ⟨(some 17), none, .q (.bin .eql .num (.tmp 14) (.tmp 16))⟩,
            ⟨(some 18), none, .q (.mv (.tmp 17))⟩,
            ⟨(some 19), (some (18, false)), .q (.mv (.tmp 0))⟩,
            ⟨(some 20), (some (18, false)), .q (.mv (.tmp 7))⟩,
            ⟨(some 21), (some (18, false)), .q (.six (.tmp 19) (.tmp 20))⟩,
            ⟨(some 22), (some (18, false)), .q (.mv (.tmp 1))⟩,
            ⟨(some 23), (some (18, false)), .q (.bin .eql .num (.tmp 21) (.tmp 22))⟩,
            ⟨(some 24), none, .q (.pick (.tmp 18) (.const (.bool true)) (.tmp 23))⟩])
        (.cond (.tmp 24)
          (.seq (.ops [⟨(some 25), none, .q (.mv (.tmp 5))⟩,
              ⟨(some 26), none, .q (.mv (.tmp 0))⟩,
              ⟨(some 27), none, .q (.mv (.tmp 6))⟩,
              ⟨(some 28), none, .q (.mv (.tmp 7))⟩,
              ⟨(some 29), none, .q (.ssl (.tmp 26) (some (.tmp 27)) (some (.tmp 28)))⟩,
              ⟨(some 30), none, .e (.bsl 9 1 [(.tmp 29)])⟩,
              ⟨(some 31), none, .e (.app 9 1 16 false (.tmp 25) (.tmp 30))⟩,
              ⟨(some 5), none, .q (.mv (.tmp 31))⟩])
          (.ops [⟨(some 32), none, .q (.mv (.tmp 7))⟩,
              ⟨(some 33), none, .q (.bin .add .num (.tmp 32) (.const (.int .i64 1)))⟩,
              ⟨(some 6), none, .q (.mv (.tmp 33))⟩]))
          (.skip))))
      (.ops [⟨(some 12), none, .q (.mv (.tmp 7))⟩,
          ⟨(some 13), none, .q (.bin .add .num (.tmp 12) (.const (.int .i64 1)))⟩,
          ⟨(some 7), none, .q (.mv (.tmp 13))⟩]))))))
  (.seq (.ops [⟨(some 34), none, .q (.mv (.tmp 5))⟩,
      ⟨(some 4), none, .q (.mv (.tmp 34))⟩])
  (.ret))))), []⟩
theorem k_rcut : compF Tryz.prog 58 = some c_rcut := by kernel_rfl
set_option maxHeartbeats 4000000 in
theorem rcut_ok {W : World} (s : Str) (c : UInt8) (z : Int) (hz : z = (c.toNat : Int)) (hs : s.size ≤ 1000000) : ACalls Tryz.prog W 58 [.v (.string s), .v (.int .u8 z)] AHeap.none fun v _ => v = .sl false 1 (strRows (splitS s (ch c))) := by
  refine fn_run follows k_rcut rfl ?_
  simp only [c_rcut, aretC_nil, List.zipIdx_cons, List.zipIdx_nil, List.map_cons, List.map_nil, Nat.zero_add]
  (try simp +decide (implicitDefEqProofs := false) only [go_sem, ↓stk_g, ↓stk_c, ↓reduceIte])
  have hl := bl_len s
  refine stk_up (α := List Str × Nat × AVal × AHeap) (s.size + 1) (fun i a => ⟨[(7, .v (.int .i64 i)), (6, .v (.int .i64 a.2.1)), (5, a.2.2.1), (0, .v (.string s)), (1, .v (.int .u8 z))], a.2.2.2⟩)
    (fun i a => (a.1.length ≤ i ∧ a.2.1 ≤ i ∧ RowO a.2.2.2 9 1 a.2.2.1 (strRows a.1)) ∧ (i ≤ s.size → (∀ k (hk : k < (bl s).length), a.2.1 ≤ k → k < i → (bl s)[k] ≠ c) ∧ cutL c (bl s) = a.1.map bl ++ cutL c ((bl s).drop a.2.1)) ∧ (i = s.size + 1 → cutL c (bl s) = a.1.map bl))
    ([], 0, .v (.slice none 0 0), AHeap.none) (Weak.list _ (Sub.refl _) (by (try simp +decide (implicitDefEqProofs := false) only [go_sem, ↓stk_g, ↓stk_c, ↓reduceIte]))) ⟨⟨Nat.le_refl _, Nat.le_refl _, RowO.nil⟩, fun _ => ⟨fun k hk h1 h2 => by omega, rfl⟩, fun h => by omega⟩ ?_
  rintro i ⟨out, f, x, H⟩ hi ⟨⟨hJ1, hJ2, hJ3⟩, hJ4, hJ5⟩
  dsimp only at hJ1 hJ2 hJ3 hJ4 hJ5 ⊢
  by_cases hle : i ≤ s.size
  · have g1 : (i : Int) ≤ (s.size : Int) := by omega
    have hw := wrap_in (n := (i : Int) + 1) (by omega) (by omega)
    obtain ⟨hn, hcut⟩ := hJ4 hle
    have hbs : bl (cutS s (f : Int) (i : Int)) = ((bl s).take i).drop f := bl_cut s f i hle
    by_cases he : i = s.size
    · have g2 : decide ((i : Int) = (s.size : Int)) = true := decide_eq_true (by omega)
      have g3 : (f : Int) ≤ (i : Int) := by omega
      (try simp +decide (implicitDefEqProofs := false) only [go_sem, ↓stk_g, ↓stk_c, ↓reduceIte, g1, g2, g3])
      refine stk_appO (new := strRows [cutS s (f : Int) (i : Int)]) hJ3 (by rfl) (by simp only [strRows_len, List.length_cons, List.length_nil]; omega) fun x' H' hr _ => ?_
      (try simp +decide (implicitDefEqProofs := false) only [go_sem, ↓stk_g, ↓stk_c, ↓reduceIte, hw])
      refine ⟨by omega, (out ++ [cutS s (f : Int) (i : Int)], i + 1, x', H'), Weak.list _ (Sub.refl _) (by (try simp +decide (implicitDefEqProofs := false) only [go_sem, ↓stk_g, ↓stk_c, ↓reduceIte])), ⟨by simp; omega, Nat.le_refl _, by simpa only [strRows_append] using hr⟩, fun h => by omega, fun _ => ?_⟩
      have h1 := cut_last (l := bl s) (c := c) (f := f) (fun k hk h1 h2 => hn k hk h1 (by omega))
      rw [hcut, h1, List.map_append, List.map_cons, hbs, List.map_nil, hl, he]
    · have g2 : decide ((i : Int) = (s.size : Int)) = false := decide_eq_false (by omega)
      have g4 : (i : Int) < (s.size : Int) := by omega
      have hi2 : i < (bl s).length := by omega
      by_cases hb : bt s (i : Int) = z
      · have g3 : decide (bt s (i : Int) = z) = true := decide_eq_true hb
        have g5 : (f : Int) ≤ (i : Int) := by omega
        have hc := (bt_c (c := c) hi2).1 (by rw [← hz]; exact hb)
        (try simp +decide (implicitDefEqProofs := false) only [go_sem, ↓stk_g, ↓stk_c, ↓reduceIte, g1, g2, g3, g4, g5])
        refine stk_appO (new := strRows [cutS s (f : Int) (i : Int)]) hJ3 (by rfl) (by simp only [strRows_len, List.length_cons, List.length_nil]; omega) fun x' H' hr _ => ?_
        (try simp +decide (implicitDefEqProofs := false) only [go_sem, ↓stk_g, ↓stk_c, ↓reduceIte, hw])
        refine ⟨by omega, (out ++ [cutS s (f : Int) (i : Int)], i + 1, x', H'), Weak.list _ (Sub.refl _) (by (try simp +decide (implicitDefEqProofs := false) only [go_sem, ↓stk_g, ↓stk_c, ↓reduceIte])), ⟨by simp; omega, Nat.le_refl _, by simpa only [strRows_append] using hr⟩, fun h => ⟨fun k hk h1 h2 => by dsimp only at h1; omega, ?_⟩, fun h => by omega⟩
        rw [hcut, cut_step hJ2 hi2 hc hn, List.map_append, List.map_cons, hbs, List.map_nil, List.append_assoc]
        rfl
      · have g3 : decide (bt s (i : Int) = z) = false := decide_eq_false hb
        have hc : (bl s)[i] ≠ c := fun e => hb (by rw [hz]; exact (bt_c hi2).2 e)
        (try simp +decide (implicitDefEqProofs := false) only [go_sem, ↓stk_g, ↓stk_c, ↓reduceIte, g1, g2, g3, g4, hw])
        refine ⟨by omega, (out, f, x, H), Weak.list _ (Sub.refl _) (by (try simp +decide (implicitDefEqProofs := false) only [go_sem, ↓stk_g, ↓stk_c, ↓reduceIte])), ⟨by dsimp only; omega, by dsimp only; omega, hJ3⟩, fun h => ⟨fun k hk h1 h2 => ?_, hcut⟩, fun h => by omega⟩
        by_cases e : k = i
        · subst e; exact hc
        · exact hn k hk h1 (by omega)
  · have g1 : ¬ (i : Int) ≤ (s.size : Int) := by omega
    have hcut := hJ5 (by omega)
    have hout : out = splitS s (ch c) := blmap_inj (by rw [splitS_cut, hcut])
    (try simp +decide (implicitDefEqProofs := false) only [go_sem, ↓stk_g, ↓stk_c, ↓reduceIte, g1])
    refine aret_row (E := 9) (rows := strRows (splitS s (ch c))) (.inr rfl) ?_ (strGood _) rfl
    simp +decide only [retOf, tget, if_true, if_false, ↓reduceIte]
    rw [← hout]; exact hJ3.row
instance (c : UInt8) : Decidable (isDig c) := inferInstanceAs (Decidable (48 ≤ c.toNat ∧ c.toNat ≤ 57))
def rnumP (s : Str) : Int := if (∀ x ∈ bl s, isDig x) ∧ s.size ≤ 7 then (dval 0 (bl s) : Int) else 0
theorem rnum_itoa (n : Int) (h0 : 0 ≤ n) (h1 : n ≤ 1000000) : rnumP (itoaS n) = n := by
  have h2 := itoa_len n h0 h1
  obtain ⟨k, rfl⟩ : ∃ k : Nat, n = k := ⟨n.toNat, by omega⟩
  unfold rnumP
  rw [bl_itoa, if_pos ⟨decDigits_dig k, h2⟩, dval_dec]
theorem dval_snoc (a : Nat) (l : List UInt8) (c : UInt8) : dval a (l ++ [c]) = dval a l * 10 + (c.toNat - 48) := by
  unfold dval; rw [List.foldl_append]; rfl
def c_rnumber : AFn := ⟨1, 35, [2],
  .seq (.ops [⟨(some 2), none, .q (.mv (.const (.int .i64 0)))⟩])
  (.seq (.ops [⟨(some 3), none, .q (.mv (.const (.int .i64 0)))⟩])
  (.seq (.seq (.ops [⟨(some 4), none, .q (.mv (.const (.int .i64 0)))⟩])
  (.block 0 (.loop (.seq (.seq (.ops [⟨(some 5), none, .q (.mv (.tmp 4))⟩,
          ⟨(some 6), none, .q (.mv (.tmp 0))⟩,
          ⟨(some 7), none, .q (.len true (.tmp 6))⟩,
          ⟨(some 8), none, .q (.bin .lss .num (.tmp 5) (.tmp 7))⟩])
      (.cond (.tmp 8)
        (.skip)
        (.exit 0)))
      (.seq (.block 1 (.seq (.seq (.ops [⟨(some 11), none, .q (.mv (.tmp 0))⟩,
            ⟨(some 12), none, .q (.mv (.tmp 4))⟩,
            ⟨(some 13), none, .q (.six (.tmp 11) (.tmp 12))⟩,
            ⟨(some 14), none, .q (.bin .lss .num (.tmp 13) (.const (.int .u8 48)))⟩,
            ⟨(some 15), none, .q (.mv (.tmp 14))⟩,
            ⟨(some 16), (some (15, false)), .q (.mv (.tmp 0))⟩,
            ⟨(some 17), (some (15, false)), .q (.mv (.tmp 4))⟩,
            ⟨(some 18), (some (15, false)), .q (.six (.tmp 16) (.tmp 17))⟩,
            ⟨(some 19), (some (15, false)), .q (.bin .gtr .num (.tmp 18) (.const (.int .u8 57)))⟩,
            ⟨(some 20), none, .q (.pick (.tmp 15) (.const (.bool true)) (.tmp 19))⟩,
            ⟨(some 21), none, .q (.mv (.tmp 20))⟩,
            ⟨(some 22), (some (21, false)), .q (.mv (.tmp 0))⟩,
            ⟨(some 23), (some (21, false)), .q (.len true (.tmp 22))⟩,
            ⟨(some 24), (some (21, false)), .q (.bin .gtr .num (.tmp 23) (.const (.int .i64 7)))⟩,
            ⟨(some 25), none, .q (.pick (.tmp 21) (.const (.bool true)) (.tmp 24))⟩])
        (.cond (.tmp 25)
          (.seq (.ops [⟨(some 2), none, .q (.mv (.const (.int .i64 0)))⟩])
          (.ret))
          (.skip)))
        (.ops [⟨(some 26), none, .q (.mv (.tmp 3))⟩,
            ⟨(some 27), none, .q (.bin .mul .num (.tmp 26) (.const (.int .i64 10)))⟩,
            ⟨(some 28), none, .q (.mv (.tmp 0))⟩,
            ⟨(some 29), none, .q (.mv (.tmp 4))⟩,
            ⟨(some 30), none, .q (.six (.tmp 28) (.tmp 29))⟩,
            ⟨(some 31), none, .q (.bin .sub .num (.tmp 30) (.const (.int .u8 48)))⟩,
            ⟨(some 32), none, .q (.cv (.int .i64) (.tmp 31))⟩,
            ⟨(some 33), none, .q (.bin .add .num (.tmp 27) (.tmp 32))⟩,
            ⟨(some 3), none, .q (.mv (.tmp 33))⟩])))
      (.ops [⟨(some 9), none, .q (.mv (.tmp 4))⟩,
          ⟨(some 10), none, .q (.bin .add .num (.tmp 9) (.const (.int .i64 1)))⟩,
          ⟨(some 4), none, .q (.mv (.tmp 10))⟩]))))))
  (.seq (.ops [⟨(some 34), none, .q (.mv (.tmp 3))⟩,
      ⟨(some 2), none, .q (.mv (.tmp 34))⟩])
  (.ret)))), []⟩
theorem k_rnumber : compF Tryz.prog 59 = some c_rnumber := by kernel_rfl
set_option maxHeartbeats 4000000 in
theorem rnumber_ok {W : World} (s : Str) (hs : s.size ≤ 1000000) : ACalls Tryz.prog W 59 [.v (.string s)] AHeap.none fun v _ => v = .v (.int .i64 (rnumP s)) := by
  refine fn_run follows k_rnumber rfl ?_
  simp only [c_rnumber, aretC_nil, List.zipIdx_cons, List.zipIdx_nil, List.map_cons, List.map_nil, Nat.zero_add]
  (try simp +decide (implicitDefEqProofs := false) only [go_sem, ↓stk_g, ↓stk_c, ↓reduceIte])
  have hl := bl_len s
  refine stk_up (α := Nat) s.size (fun i n => ⟨[(4, .v (.int .i64 i)), (3, .v (.int .i64 n)), (0, .v (.string s))], AHeap.none⟩) (fun i n => n = dval 0 ((bl s).take i) ∧ n + 1 ≤ 10 ^ i ∧ (∀ k (hk : k < (bl s).length), k < i → isDig (bl s)[k]) ∧ (0 < i → s.size ≤ 7)) 0 (Weak.list _ (Sub.refl _) (by (try simp +decide (implicitDefEqProofs := false) only [go_sem, ↓stk_g, ↓stk_c, ↓reduceIte]))) ⟨rfl, by decide, fun k hk h => by omega, fun h => by omega⟩ ?_
  rintro i n hi ⟨hJ1, hJ2, hJ3, hJ4⟩
  by_cases hlt : i < s.size
  · have g1 : (i : Int) < (s.size : Int) := by omega
    have hi2 : i < (bl s).length := by omega
    have hb := bt_get (s := s) hi2
    have hlast : (bl s).take (i + 1) = (bl s).take i ++ [(bl s)[i]] := List.take_succ_eq_append_getElem hi2
    have hno : ∀ (h : ¬ isDig (bl s)[i]), rnumP s = 0 := fun h => if_neg fun e => h (e.1 _ (List.getElem_mem _))
    generalize hx : (bl s)[i] = x at hb hlast hno
    by_cases q1 : bt s (i : Int) < 48
    · (try simp +decide (implicitDefEqProofs := false) only [go_sem, ↓stk_g, ↓stk_c, ↓reduceIte, g1, q1])
      refine aret_pure (.inr rfl) ?_; simp +decide only [retOf, tget, if_true, if_false, ↓reduceIte, List.map_cons, List.map_nil]
      rw [hno (by unfold isDig; omega)]
    by_cases q2 : 57 < bt s (i : Int)
    · (try simp +decide (implicitDefEqProofs := false) only [go_sem, ↓stk_g, ↓stk_c, ↓reduceIte, g1, q1, q2])
      refine aret_pure (.inr rfl) ?_; simp +decide only [retOf, tget, if_true, if_false, ↓reduceIte, List.map_cons, List.map_nil]
      rw [hno (by unfold isDig; omega)]
    by_cases q3 : (7 : Int) < (s.size : Int)
    · (try simp +decide (implicitDefEqProofs := false) only [go_sem, ↓stk_g, ↓stk_c, ↓reduceIte, g1, q1, q2, q3])
      refine aret_pure (.inr rfl) ?_; simp +decide only [retOf, tget, if_true, if_false, ↓reduceIte, List.map_cons, List.map_nil]
      unfold rnumP
      rw [if_neg (fun e => by omega)]
    have hp : 10 ^ i ≤ 10 ^ 7 := Nat.pow_le_pow_right (by omega) (by omega)
    have hps : 10 ^ (i + 1) = 10 ^ i * 10 := Nat.pow_succ 10 i
    have hw := wrap_in (n := (i : Int) + 1) (by omega) (by omega)
    have w1 := wrap_in (n := (n : Int) * 10) (by omega) (by omega)
    have v1 := u8_in (n := bt s (i : Int) - 48) (by omega) (by omega)
    have v2 := wrap_in (n := bt s (i : Int) - 48) (by omega) (by omega)
    have w2 := wrap_in (n := (n : Int) * 10 + (bt s (i : Int) - 48)) (by omega) (by omega)
    have hc : (n : Int) * 10 + (bt s (i : Int) - 48) = ((n * 10 + (x.toNat - 48) : Nat) : Int) := by omega
    (try simp +decide (implicitDefEqProofs := false) only [go_sem, ↓stk_g, ↓stk_c, ↓reduceIte, g1, q1, q2, q3, w1, v1, v2, w2, hw])
    rw [hc]
    refine ⟨by omega, n * 10 + (x.toNat - 48), Weak.list _ (Sub.refl _) (by (try simp +decide (implicitDefEqProofs := false) only [go_sem, ↓stk_g, ↓stk_c, ↓reduceIte])), by rw [hlast, dval_snoc, ← hJ1], by omega, fun k hk h => ?_, fun _ => by omega⟩
    by_cases e : k = i
    · subst e; rw [hx]; unfold isDig; omega
    · exact hJ3 k hk (by omega)
  · have g1 : ¬ (i : Int) < (s.size : Int) := by omega
    obtain rfl : i = s.size := by omega
    (try simp +decide (implicitDefEqProofs := false) only [go_sem, ↓stk_g, ↓stk_c, ↓reduceIte, g1])
    refine aret_pure (.inr rfl) ?_; simp +decide only [retOf, tget, if_true, if_false, ↓reduceIte, List.map_cons, List.map_nil]
    have hd : ∀ x ∈ bl s, isDig x := fun x hx => by
      obtain ⟨j, hj, rfl⟩ := List.getElem_of_mem hx
      exact hJ3 j hj (by omega)
    have h7 : s.size ≤ 7 := by
      rcases Nat.eq_zero_or_pos s.size with h | h
      · omega
      · exact hJ4 h
    unfold rnumP
    rw [if_pos ⟨hd, h7⟩, hJ1, ← hl, List.take_length]
end Go.Proofs.YtcplmaffccfbdaaGreatDoor.M
