/-
  Which messages the laws go through; whether two are one; the laws' own check: walked.
-/
import Derived.Test.YtcplmaffccfbdaaGreatDoorQe
import Derived.Test.YtcplmaffccfbdaaGreatDoorPg
namespace Go.Proofs.YtcplmaffccfbdaaGreatDoor.M
open Go.RowKit
attribute [local go_sem] stk_nil stk_skip stk_ops stk_seq stk_block stk_scope stk_exit stk_ret stk_code_exit stk_code_ret stk_ops_exit stk_ops_ret stk_endb stk_endb_exit stk_endb_ret stk_endl stk_endl_exit stk_endl_ret stk_ops_nil stk_q stk_niq niqA flip srcOf stk_bsl side val bside bval uside uval cside cval bndS bndV intA isInt lside lval fside fval faside faval iside ival sxside sxval sizeA slside slval llside llval lenside lenval lenA tupA mmside mmval nkside boolA isBool ev_t ev_c tget put_s put_n lkside lkval menval stk_mk Option.isSome_some isMapA mapA keyA FZ_rfl FZ_any retOf true_and and_true if_true if_false decide_true decide_false Bool.not_true Bool.not_false Nat.zero_add List.map_cons List.map_nil Int.toNat_natCast strRows_len intRows_len List.getD_cons_zero List.getD_cons_succ List.length_cons List.length_nil List.forall_mem_cons List.not_mem_nil false_implies implies_true Int.ofNat_zero Int.natCast_add Int.natCast_one Int.ofNat_one Int.natCast_zero isB isU Bool.false_eq_true beq_self_eq_true Bool.false_beq Bool.true_beq Int.natCast_nonneg undef strRows_take strRows_drop Int.toNat_zero List.drop_zero Bool.and_true oneOr List.all_cons List.all_nil AVal.one Value.oneCell' Bool.true_and List.take_length stk_st' stside stH hp_self hp_hp isnside isnval lay List.take_succ_cons List.take_zero List.drop_succ_cons List.nil_append List.cons_append Option.getD_some List.append_nil and_self
set_option linter.unusedVariables false
set_option linter.unusedSimpArgs false
structure MLens (m : Msg) : Prop where
  ids : m.ids.length ≤ 9223372036854775807
  posts : m.posts.length ≤ 9223372036854775807
  pol : Lens m.pol
def c_mLight : AFn := ⟨1, 65, [2],
  .seq (.ops [⟨(some 1), none, .e (.box 27 (.tmp 0))⟩,
      ⟨(some 2), none, .q (.mv (.const (.bool false)))⟩])
  (.seq (.ops [⟨(some 3), none, .q (.mv (.const (.int .i64 0)))⟩])
  (.seq (.seq (.ops [⟨(some 6), none, .q (.fad 4 1 (.tmp 1))⟩,
      ⟨(some 7), none, .q (.ld false 1 (.tmp 6))⟩,
      ⟨(some 8), none, .q (.len false (.tmp 7))⟩,
      ⟨(some 9), none, .q (.bin .gtr .num (.tmp 8) (.const (.int .i64 100)))⟩,
      ⟨(some 10), none, .q (.mv (.tmp 9))⟩,
      ⟨(some 11), (some (10, false)), .q (.fad 5 1 (.tmp 1))⟩,
      ⟨(some 12), (some (10, false)), .q (.ld false 1 (.tmp 11))⟩,
      ⟨(some 13), (some (10, false)), .q (.len false (.tmp 12))⟩,
      ⟨(some 14), (some (10, false)), .q (.bin .gtr .num (.tmp 13) (.const (.int .i64 100)))⟩,
      ⟨(some 15), none, .q (.pick (.tmp 10) (.const (.bool true)) (.tmp 14))⟩])
  (.cond (.tmp 15)
    (.seq (.ops [⟨(some 2), none, .q (.mv (.const (.bool false)))⟩])
    (.ret))
    (.skip)))
  (.seq (.seq (.ops [⟨(some 4), none, .q (.mv (.const (.int .i64 0)))⟩])
  (.block 0 (.loop (.seq (.seq (.ops [⟨(some 16), none, .q (.mv (.tmp 4))⟩,
          ⟨(some 17), none, .q (.fad 4 1 (.tmp 1))⟩,
          ⟨(some 18), none, .q (.ld false 1 (.tmp 17))⟩,
          ⟨(some 19), none, .q (.len false (.tmp 18))⟩,
          ⟨(some 20), none, .q (.bin .lss .num (.tmp 16) (.tmp 19))⟩])
      (.cond (.tmp 20)
        (.skip)
        (.exit 0)))
      (.seq (.block 1 (.ops [⟨(some 23), none, .q (.mv (.tmp 3))⟩,
            ⟨(some 24), none, .q (.fad 4 1 (.tmp 1))⟩,
            ⟨(some 25), none, .q (.ld false 1 (.tmp 24))⟩,
            ⟨(some 26), none, .q (.mv (.tmp 4))⟩,
            ⟨(some 27), none, .q (.ixa 1 (.tmp 25) (.tmp 26))⟩,
            ⟨(some 28), none, .q (.ld false 1 (.tmp 27))⟩,
            ⟨(some 29), none, .q (.len true (.tmp 28))⟩,
            ⟨(some 30), none, .q (.mm false (.tmp 29) (.const (.int .i64 100000)))⟩,
            ⟨(some 31), none, .q (.bin .add .num (.tmp 23) (.tmp 30))⟩,
            ⟨(some 3), none, .q (.mv (.tmp 31))⟩]))
      (.ops [⟨(some 21), none, .q (.mv (.tmp 4))⟩,
          ⟨(some 22), none, .q (.bin .add .num (.tmp 21) (.const (.int .i64 1)))⟩,
          ⟨(some 4), none, .q (.mv (.tmp 22))⟩]))))))
  (.seq (.seq (.ops [⟨(some 5), none, .q (.mv (.const (.int .i64 0)))⟩])
  (.block 2 (.loop (.seq (.seq (.ops [⟨(some 32), none, .q (.mv (.tmp 5))⟩,
          ⟨(some 33), none, .q (.fad 5 1 (.tmp 1))⟩,
          ⟨(some 34), none, .q (.ld false 1 (.tmp 33))⟩,
          ⟨(some 35), none, .q (.len false (.tmp 34))⟩,
          ⟨(some 36), none, .q (.bin .lss .num (.tmp 32) (.tmp 35))⟩])
      (.cond (.tmp 36)
        (.skip)
        (.exit 2)))
      (.seq (.block 3 (.ops [⟨(some 39), none, .q (.mv (.tmp 3))⟩,
            ⟨(some 40), none, .q (.fad 5 1 (.tmp 1))⟩,
            ⟨(some 41), none, .q (.ld false 1 (.tmp 40))⟩,
            ⟨(some 42), none, .q (.mv (.tmp 5))⟩,
            ⟨(some 43), none, .q (.ixa 2 (.tmp 41) (.tmp 42))⟩,
            ⟨(some 44), none, .q (.fad 0 1 (.tmp 43))⟩,
            ⟨(some 45), none, .q (.ld false 1 (.tmp 44))⟩,
            ⟨(some 46), none, .q (.len true (.tmp 45))⟩,
            ⟨(some 47), none, .q (.mm false (.tmp 46) (.const (.int .i64 100000)))⟩,
            ⟨(some 48), none, .q (.bin .add .num (.tmp 39) (.tmp 47))⟩,
            ⟨(some 49), none, .q (.fad 5 1 (.tmp 1))⟩,
            ⟨(some 50), none, .q (.ld false 1 (.tmp 49))⟩,
            ⟨(some 51), none, .q (.mv (.tmp 5))⟩,
            ⟨(some 52), none, .q (.ixa 2 (.tmp 50) (.tmp 51))⟩,
            ⟨(some 53), none, .q (.fad 1 1 (.tmp 52))⟩,
            ⟨(some 54), none, .q (.ld false 1 (.tmp 53))⟩,
            ⟨(some 55), none, .q (.len true (.tmp 54))⟩,
            ⟨(some 56), none, .q (.mm false (.tmp 55) (.const (.int .i64 100000)))⟩,
            ⟨(some 57), none, .q (.bin .add .num (.tmp 48) (.tmp 56))⟩,
            ⟨(some 3), none, .q (.mv (.tmp 57))⟩]))
      (.ops [⟨(some 37), none, .q (.mv (.tmp 5))⟩,
          ⟨(some 38), none, .q (.bin .add .num (.tmp 37) (.const (.int .i64 1)))⟩,
          ⟨(some 5), none, .q (.mv (.tmp 38))⟩]))))))
  (.seq (.ops [⟨(some 58), none, .q (.mv (.tmp 3))⟩,
      ⟨(some 59), none, .q (.bin .lss .num (.tmp 58) (.const (.int .i64 20000)))⟩,
      ⟨(some 60), none, .q (.mv (.tmp 59))⟩,
      ⟨(some 61), (some (60, true)), .q (.fad 6 9 (.tmp 1))⟩,
      ⟨(some 62), (some (60, true)), .q (.ld true 9 (.tmp 61))⟩,
      ⟨(some 63), (some (60, true)), .e (.call 14 [(.tmp 62)])⟩,
      ⟨(some 64), none, .q (.pick (.tmp 60) (.tmp 63) (.const (.bool false)))⟩,
      ⟨(some 2), none, .q (.mv (.tmp 64))⟩])
  (.ret)))))), []⟩
theorem k_mLight : compF Tryz.prog 6 = some c_mLight := by kernel_rfl
set_option maxHeartbeats 8000000 in
theorem mlight_ok {W : World} (m : Msg) (hlen : MLens m) : ACalls Tryz.prog W 6 [.agg (msgCells m)] AHeap.none fun v _ => ∃ b, v = .v (.bool b) ∧ (b = true → MFits m) := by
  have hm1 := hlen.ids
  have hm2 := hlen.posts
  refine fn_run follows k_mLight rfl ?_
  simp only [c_mLight, aretC_nil, List.zipIdx_cons, List.zipIdx_nil, List.map_cons, List.map_nil, Nat.zero_add]
  (try simp +decide (implicitDefEqProofs := false) only [go_sem, ↓stk_g, ↓stk_c, ↓reduceIte])
  rw [stk_box]
  refine ⟨by rfl, fun b1 h1 => ?_⟩
  by_cases a1 : (100 : Int) < (m.ids.length : Int)
  · have d1 : decide ((100 : Int) < (m.ids.length : Int)) = true := decide_eq_true a1
    (try simp +decide (implicitDefEqProofs := false) only [go_sem, ↓stk_g, ↓stk_c, ↓reduceIte, msgCells, a1])
    refine aret_pure (.inr rfl) ?_; simp +decide only [retOf, tget, if_true, if_false, ↓reduceIte, List.map_cons, List.map_nil]
    exact ⟨false, rfl, fun h => by cases h⟩
  by_cases a2 : (100 : Int) < (m.posts.length : Int)
  · (try simp +decide (implicitDefEqProofs := false) only [go_sem, ↓stk_g, ↓stk_c, ↓reduceIte, msgCells, a1, a2, postRows_len])
    refine aret_pure (.inr rfl) ?_; simp +decide only [retOf, tget, if_true, if_false, ↓reduceIte, List.map_cons, List.map_nil]
    exact ⟨false, rfl, fun h => by cases h⟩
  (try simp +decide (implicitDefEqProofs := false) only [go_sem, ↓stk_g, ↓stk_c, ↓reduceIte, msgCells, a1, a2, postRows_len])
  refine stk_up (α := Nat) m.ids.length (fun i n => ⟨[(4, .v (.int .i64 i)), (3, .v (.int .i64 n)), (1, .pl (msgCells m))], AHeap.none⟩) (fun i n => n ≤ 100000 * i) 0 (Weak.list _ (Sub.none _) ?_) (Nat.le_refl _) ?_
  · (try simp +decide (implicitDefEqProofs := false) only [go_sem, ↓stk_g, ↓stk_c, ↓reduceIte])
    first | done | exact FZ.cellsR (hp_self _ _ _) rfl | exact ⟨FZ.cellsR (hp_self _ _ _) rfl, FZ.refl _⟩
  rintro i n hi hJ
  by_cases hlt : i < m.ids.length
  · have g1 : (i : Int) < (m.ids.length : Int) := by omega
    have hw := wrap_in (n := (i : Int) + 1) (by omega) (by omega)
    have hg := strRows_get hlt
    have hmin : min ((m.ids.getD i ByteArray.empty).size : Int) 100000 = ((min (m.ids.getD i ByteArray.empty).size 100000 : Nat) : Int) := by omega
    have hmb : min (m.ids.getD i ByteArray.empty).size 100000 ≤ 100000 := by omega
    generalize min (m.ids.getD i ByteArray.empty).size 100000 = w at hmin hmb
    have hwm := wrap_in (n := (n : Int) + (w : Int)) (by omega) (by omega)
    have hcast : (n : Int) + (w : Int) = ((n + w : Nat) : Int) := by omega
    (try simp +decide (implicitDefEqProofs := false) only [go_sem, ↓stk_g, ↓stk_c, ↓reduceIte, msgCells, g1, hlt, hg, hmin, hwm, hw])
    first | exact ⟨by omega, n + w, Weak.list _ (Sub.refl _) (by (try simp +decide (implicitDefEqProofs := false) only [go_sem, ↓stk_g, ↓stk_c, ↓reduceIte])), by omega⟩ | exact ⟨n + w, Weak.list _ (Sub.refl _) (by (try simp +decide (implicitDefEqProofs := false) only [go_sem, ↓stk_g, ↓stk_c, ↓reduceIte])), by omega⟩
  have g1 : ¬ (i : Int) < (m.ids.length : Int) := by omega
  (try simp +decide (implicitDefEqProofs := false) only [go_sem, ↓stk_g, ↓stk_c, ↓reduceIte, msgCells, g1])
  refine stk_up (α := Nat) m.posts.length (fun i n => ⟨[(5, .v (.int .i64 i)), (3, .v (.int .i64 n)), (1, .pl (msgCells m))], AHeap.none⟩) (fun i n => n ≤ 10000000 + 200000 * i) n (Weak.list _ (Sub.refl _) ?_) (by omega) ?_
  · (try simp +decide (implicitDefEqProofs := false) only [go_sem, ↓stk_g, ↓stk_c, ↓reduceIte])
    first | done | exact FZ.refl _ | exact ⟨FZ.refl _, FZ.refl _⟩
  clear hJ
  rintro j n hj hJ
  by_cases hlt : j < m.posts.length
  · have g2 : (j : Int) < (m.posts.length : Int) := by omega
    have hw := wrap_in (n := (j : Int) + 1) (by omega) (by omega)
    have hg := postRows_get hlt
    generalize m.posts.getD j noPost = q at hg
    have hmin : min (q.1.size : Int) 100000 = ((min q.1.size 100000 : Nat) : Int) := by omega
    have hmin2 : min (q.2.size : Int) 100000 = ((min q.2.size 100000 : Nat) : Int) := by omega
    have hmb : min q.1.size 100000 ≤ 100000 := by omega
    have hmb2 : min q.2.size 100000 ≤ 100000 := by omega
    generalize min q.1.size 100000 = w at hmin hmb
    generalize min q.2.size 100000 = w2 at hmin2 hmb2
    have hwm := wrap_in (n := (n : Int) + (w : Int)) (by omega) (by omega)
    have hwm2 := wrap_in (n := (n : Int) + (w : Int) + (w2 : Int)) (by omega) (by omega)
    (try simp +decide (implicitDefEqProofs := false) only [go_sem, ↓stk_g, ↓stk_c, ↓reduceIte, msgCells, postRows_len, g2, hlt, hg, hmin, hmin2, hwm, hwm2, hw])
    have hcast : (n : Int) + (w : Int) + (w2 : Int) = ((n + w + w2 : Nat) : Int) := by omega
    first | exact ⟨by omega, n + w + w2, Weak.list _ (Sub.refl _) (by (try simp +decide (implicitDefEqProofs := false) only [go_sem, ↓stk_g, ↓stk_c, ↓reduceIte])), by omega⟩ | exact ⟨n + w + w2, Weak.list _ (Sub.refl _) (by (try simp +decide (implicitDefEqProofs := false) only [go_sem, ↓stk_g, ↓stk_c, ↓reduceIte])), by omega⟩
  have g2 : ¬ (j : Int) < (m.posts.length : Int) := by omega
  by_cases hn : (n : Int) < 20000
  · (try simp +decide (implicitDefEqProofs := false) only [go_sem, ↓stk_g, ↓stk_c, ↓reduceIte, msgCells, postRows_len, g2, hn])
    refine stk_pure (light_ok m.pol hlen.pol) fun v hv => ?_
    obtain ⟨b, rfl, hF⟩ := hv
    (try simp +decide (implicitDefEqProofs := false) only [go_sem, ↓stk_g, ↓stk_c, ↓reduceIte])
    refine aret_pure (.inr rfl) ?_; simp +decide only [retOf, tget, if_true, if_false, ↓reduceIte, List.map_cons, List.map_nil]
    exact ⟨b, rfl, fun h => ⟨by omega, by omega, hF h⟩⟩
  · (try simp +decide (implicitDefEqProofs := false) only [go_sem, ↓stk_g, ↓stk_c, ↓reduceIte, msgCells, postRows_len, g2, hn])
    refine aret_pure (.inr rfl) ?_; simp +decide only [retOf, tget, if_true, if_false, ↓reduceIte, List.map_cons, List.map_nil]
    exact ⟨false, rfl, fun h => by cases h⟩
theorem Msg.ext2 {a b : Msg} (h : a.kind = b.kind ∧ a.frm = b.frm ∧ a.dst = b.dst ∧ a.epoch = b.epoch ∧ a.ids = b.ids ∧ a.posts = b.posts ∧ a.pol = b.pol) : a = b := by
  obtain ⟨a1, a2, a3, a4, a5, a6, a7⟩ := a
  obtain ⟨b1, b2, b3, b4, b5, b6, b7⟩ := b
  obtain ⟨h1, h2, h3, h4, h5, h6, h7⟩ := h
  subst h1; subst h2; subst h3; subst h4; subst h5; subst h6; subst h7
  rfl
instance : DecidableEq Msg := fun a b => decidable_of_iff (a.kind = b.kind ∧ a.frm = b.frm ∧ a.dst = b.dst ∧ a.epoch = b.epoch ∧ a.ids = b.ids ∧ a.posts = b.posts ∧ a.pol = b.pol) ⟨Msg.ext2, fun h => by subst h; simp⟩
theorem steq2 (a b c d : Str) : steq [1, 1] (.agg [.v (.string a), .v (.string b)]) (.agg [.v (.string c), .v (.string d)]) = some (decide (a = c) && decide (b = d)) := by
  simp [steq, isAggA, aggA, flatEq, flat1]
def c_mSame : AFn := ⟨2, 95, [4],
  .seq (.ops [⟨(some 2), none, .e (.box 27 (.tmp 0))⟩,
      ⟨(some 3), none, .e (.box 27 (.tmp 1))⟩,
      ⟨(some 4), none, .q (.mv (.const (.bool false)))⟩])
  (.seq (.seq (.ops [⟨(some 7), none, .q (.fad 0 1 (.tmp 2))⟩,
      ⟨(some 8), none, .q (.ld false 1 (.tmp 7))⟩,
      ⟨(some 9), none, .q (.fad 0 1 (.tmp 3))⟩,
      ⟨(some 10), none, .q (.ld false 1 (.tmp 9))⟩,
      ⟨(some 11), none, .q (.bin .neq .num (.tmp 8) (.tmp 10))⟩,
      ⟨(some 12), none, .q (.mv (.tmp 11))⟩,
      ⟨(some 13), (some (12, false)), .q (.fad 1 1 (.tmp 2))⟩,
      ⟨(some 14), (some (12, false)), .q (.ld false 1 (.tmp 13))⟩,
      ⟨(some 15), (some (12, false)), .q (.fad 1 1 (.tmp 3))⟩,
      ⟨(some 16), (some (12, false)), .q (.ld false 1 (.tmp 15))⟩,
      ⟨(some 17), (some (12, false)), .q (.bin .neq .num (.tmp 14) (.tmp 16))⟩,
      ⟨(some 18), none, .q (.pick (.tmp 12) (.const (.bool true)) (.tmp 17))⟩,
      ⟨(some 19), none, .q (.mv (.tmp 18))⟩,
      ⟨(some 20), (some (19, false)), .q (.fad 2 1 (.tmp 2))⟩,
      ⟨(some 21), (some (19, false)), .q (.ld false 1 (.tmp 20))⟩,
      ⟨(some 22), (some (19, false)), .q (.fad 2 1 (.tmp 3))⟩,
      ⟨(some 23), (some (19, false)), .q (.ld false 1 (.tmp 22))⟩,
      ⟨(some 24), (some (19, false)), .q (.bin .neq .num (.tmp 21) (.tmp 23))⟩,
      ⟨(some 25), none, .q (.pick (.tmp 19) (.const (.bool true)) (.tmp 24))⟩,
      ⟨(some 26), none, .q (.mv (.tmp 25))⟩,
      ⟨(some 27), (some (26, false)), .q (.fad 3 1 (.tmp 2))⟩,
      ⟨(some 28), (some (26, false)), .q (.ld false 1 (.tmp 27))⟩,
      ⟨(some 29), (some (26, false)), .q (.fad 3 1 (.tmp 3))⟩,
      ⟨(some 30), (some (26, false)), .q (.ld false 1 (.tmp 29))⟩,
      ⟨(some 31), (some (26, false)), .q (.bin .neq .num (.tmp 28) (.tmp 30))⟩,
      ⟨(some 32), none, .q (.pick (.tmp 26) (.const (.bool true)) (.tmp 31))⟩,
      ⟨(some 33), none, .q (.mv (.tmp 32))⟩,
      ⟨(some 34), (some (33, false)), .q (.fad 4 1 (.tmp 2))⟩,
      ⟨(some 35), (some (33, false)), .q (.ld false 1 (.tmp 34))⟩,
      ⟨(some 36), (some (33, false)), .q (.len false (.tmp 35))⟩,
      ⟨(some 37), (some (33, false)), .q (.fad 4 1 (.tmp 3))⟩,
      ⟨(some 38), (some (33, false)), .q (.ld false 1 (.tmp 37))⟩,
      ⟨(some 39), (some (33, false)), .q (.len false (.tmp 38))⟩,
      ⟨(some 40), (some (33, false)), .q (.bin .neq .num (.tmp 36) (.tmp 39))⟩,
      ⟨(some 41), none, .q (.pick (.tmp 33) (.const (.bool true)) (.tmp 40))⟩,
      ⟨(some 42), none, .q (.mv (.tmp 41))⟩,
      ⟨(some 43), (some (42, false)), .q (.fad 5 1 (.tmp 2))⟩,
      ⟨(some 44), (some (42, false)), .q (.ld false 1 (.tmp 43))⟩,
      ⟨(some 45), (some (42, false)), .q (.len false (.tmp 44))⟩,
      ⟨(some 46), (some (42, false)), .q (.fad 5 1 (.tmp 3))⟩,
      ⟨(some 47), (some (42, false)), .q (.ld false 1 (.tmp 46))⟩,
      ⟨(some 48), (some (42, false)), .q (.len false (.tmp 47))⟩,
      ⟨(some 49), (some (42, false)), .q (.bin .neq .num (.tmp 45) (.tmp 48))⟩,
      ⟨(some 50), none, .q (.pick (.tmp 42) (.const (.bool true)) (.tmp 49))⟩,
      ⟨(some 51), none, .q (.mv (.tmp 50))⟩,
      ⟨(some 52), (some (51, false)), .q (.fad 6 9 (.tmp 2))⟩,
      ⟨(some 53), (some (51, false)), .q (.ld true 9 (.tmp 52))⟩,
      ⟨(some 54), (some (51, false)), .q (.fad 6 9 (.tmp 3))⟩,
      ⟨(some 55), (some (51, false)), .q (.ld true 9 (.tmp 54))⟩,
      ⟨(some 56), (some (51, false)), .e (.call 23 [(.tmp 53), (.tmp 55)])⟩,
      ⟨(some 57), (some (51, false)), .q (.un .not (.tmp 56))⟩,
      ⟨(some 58), none, .q (.pick (.tmp 51) (.const (.bool true)) (.tmp 57))⟩])
  (.cond (.tmp 58)
    (.seq (.ops [⟨(some 4), none, .q (.mv (.const (.bool false)))⟩])
    (.ret))
    (.skip)))
  (.seq (.seq (.ops [⟨(some 5), none, .q (.mv (.const (.int .i64 0)))⟩])
  (.block 0 (.loop (.seq (.seq (.ops [⟨(some 59), none, .q (.mv (.tmp 5))⟩,
          ⟨(some 60), none, .q (.fad 4 1 (.tmp 2))⟩,
          ⟨(some 61), none, .q (.ld false 1 (.tmp 60))⟩,
          ⟨(some 62), none, .q (.len false (.tmp 61))⟩,
          ⟨(some 63), none, .q (.bin .lss .num (.tmp 59) (.tmp 62))⟩])
      (.cond (.tmp 63)
        (.skip)
        (.exit 0)))
      (.seq (.block 1 (.seq (.ops [⟨(some 66), none, .q (.fad 4 1 (.tmp 2))⟩,
            ⟨(some 67), none, .q (.ld false 1 (.tmp 66))⟩,
            ⟨(some 68), none, .q (.mv (.tmp 5))⟩,
            ⟨(some 69), none, .q (.ixa 1 (.tmp 67) (.tmp 68))⟩,
            ⟨(some 70), none, .q (.ld false 1 (.tmp 69))⟩,
            ⟨(some 71), none, .q (.fad 4 1 (.tmp 3))⟩,
            ⟨(some 72), none, .q (.ld false 1 (.tmp 71))⟩,
            ⟨(some 73), none, .q (.mv (.tmp 5))⟩,
            ⟨(some 74), none, .q (.ixa 1 (.tmp 72) (.tmp 73))⟩,
            ⟨(some 75), none, .q (.ld false 1 (.tmp 74))⟩,
            ⟨(some 76), none, .q (.bin .neq .num (.tmp 70) (.tmp 75))⟩])
        (.cond (.tmp 76)
          (.seq (.ops [⟨(some 4), none, .q (.mv (.const (.bool false)))⟩])
          (.ret))
          (.skip))))
      (.ops [⟨(some 64), none, .q (.mv (.tmp 5))⟩,
          ⟨(some 65), none, .q (.bin .add .num (.tmp 64) (.const (.int .i64 1)))⟩,
          ⟨(some 5), none, .q (.mv (.tmp 65))⟩]))))))
  (.seq (.seq (.ops [⟨(some 6), none, .q (.mv (.const (.int .i64 0)))⟩])
  (.block 2 (.loop (.seq (.seq (.ops [⟨(some 77), none, .q (.mv (.tmp 6))⟩,
          ⟨(some 78), none, .q (.fad 5 1 (.tmp 2))⟩,
          ⟨(some 79), none, .q (.ld false 1 (.tmp 78))⟩,
          ⟨(some 80), none, .q (.len false (.tmp 79))⟩,
          ⟨(some 81), none, .q (.bin .lss .num (.tmp 77) (.tmp 80))⟩])
      (.cond (.tmp 81)
        (.skip)
        (.exit 2)))
      (.seq (.block 3 (.seq (.ops [⟨(some 84), none, .q (.fad 5 1 (.tmp 2))⟩,
            ⟨(some 85), none, .q (.ld false 1 (.tmp 84))⟩,
            ⟨(some 86), none, .q (.mv (.tmp 6))⟩,
            ⟨(some 87), none, .q (.ixa 2 (.tmp 85) (.tmp 86))⟩,
            ⟨(some 88), none, .q (.ld true 2 (.tmp 87))⟩,
            ⟨(some 89), none, .q (.fad 5 1 (.tmp 3))⟩,
            ⟨(some 90), none, .q (.ld false 1 (.tmp 89))⟩,
            ⟨(some 91), none, .q (.mv (.tmp 6))⟩,
            ⟨(some 92), none, .q (.ixa 2 (.tmp 90) (.tmp 91))⟩,
            ⟨(some 93), none, .q (.ld true 2 (.tmp 92))⟩,
            ⟨(some 94), none, .q (.bin .neq (.struct [1, 1]) (.tmp 88) (.tmp 93))⟩])
        (.cond (.tmp 94)
          (.seq (.ops [⟨(some 4), none, .q (.mv (.const (.bool false)))⟩])
          (.ret))
          (.skip))))
      (.ops [⟨(some 82), none, .q (.mv (.tmp 6))⟩,
          ⟨(some 83), none, .q (.bin .add .num (.tmp 82) (.const (.int .i64 1)))⟩,
          ⟨(some 6), none, .q (.mv (.tmp 83))⟩]))))))
  (.seq (.ops [⟨(some 4), none, .q (.mv (.const (.bool true)))⟩])
  (.ret))))), []⟩
theorem k_mSame : compF Tryz.prog 13 = some c_mSame := by kernel_rfl
set_option maxHeartbeats 16000000 in
theorem msame_ok {W : World} (a b : Msg) (F : MFits a) (G : MFits b) : ACalls Tryz.prog W 13 [.agg (msgCells a), .agg (msgCells b)] AHeap.none fun v _ => v = .v (.bool (decide (a = b))) := by
  have F1 := F.ids; have F2 := F.posts
  have G1 := G.ids; have G2 := G.posts
  refine fn_run follows k_mSame rfl ?_
  simp only [c_mSame, aretC_nil, List.zipIdx_cons, List.zipIdx_nil, List.map_cons, List.map_nil, Nat.zero_add]
  (try simp +decide (implicitDefEqProofs := false) only [go_sem, ↓stk_g, ↓stk_c, ↓reduceIte])
  rw [stk_box]
  refine ⟨by rfl, fun b1 h1 => ?_⟩
  (try simp +decide (implicitDefEqProofs := false) only [go_sem, ↓stk_g, ↓stk_c, ↓reduceIte])
  rw [stk_box]
  refine ⟨by rfl, fun b2 h2 => ?_⟩
  have n2 := new_ne (hp_self _ _ _) h2
  have n2' := n2.symm
  have no : ∀ (h : a ≠ b), AVal.v (.bool false) = .v (.bool (decide (a = b))) := fun h => by rw [decide_eq_false h]
  have hb1 := fun (x y : AObj) => (hp_ne (AHeap.none.put b1 x) y n2').trans (hp_self AHeap.none b1 x)
  by_cases e1 : a.kind = b.kind
  case neg =>
    have d1 : decide (a.kind ≠ b.kind) = true := decide_eq_true e1
    (try simp +decide (implicitDefEqProofs := false) only [go_sem, ↓stk_g, ↓stk_c, ↓reduceIte, hp_self, hb1, msgCells, postRows_len, d1])
    refine aret_pure (.inr rfl) ?_; simp +decide only [retOf, tget, if_true, if_false, ↓reduceIte, List.map_cons, List.map_nil]
    exact no fun h => e1 (by rw [h])
  have d1 : decide (a.kind ≠ b.kind) = false := decide_eq_false (fun h => h e1)
  by_cases e2 : a.frm = b.frm
  case neg =>
    have d2 : decide (a.frm ≠ b.frm) = true := decide_eq_true e2
    (try simp +decide (implicitDefEqProofs := false) only [go_sem, ↓stk_g, ↓stk_c, ↓reduceIte, hp_self, hb1, msgCells, postRows_len, d1, d2])
    refine aret_pure (.inr rfl) ?_; simp +decide only [retOf, tget, if_true, if_false, ↓reduceIte, List.map_cons, List.map_nil]
    exact no fun h => e2 (by rw [h])
  have d2 : decide (a.frm ≠ b.frm) = false := decide_eq_false (fun h => h e2)
  by_cases e3 : a.dst = b.dst
  case neg =>
    have d3 : decide (a.dst ≠ b.dst) = true := decide_eq_true e3
    (try simp +decide (implicitDefEqProofs := false) only [go_sem, ↓stk_g, ↓stk_c, ↓reduceIte, hp_self, hb1, msgCells, postRows_len, d1, d2, d3])
    refine aret_pure (.inr rfl) ?_; simp +decide only [retOf, tget, if_true, if_false, ↓reduceIte, List.map_cons, List.map_nil]
    exact no fun h => e3 (by rw [h])
  have d3 : decide (a.dst ≠ b.dst) = false := decide_eq_false (fun h => h e3)
  by_cases e4 : a.epoch = b.epoch
  case neg =>
    have d4 : decide (a.epoch ≠ b.epoch) = true := decide_eq_true e4
    (try simp +decide (implicitDefEqProofs := false) only [go_sem, ↓stk_g, ↓stk_c, ↓reduceIte, hp_self, hb1, msgCells, postRows_len, d1, d2, d3, d4])
    refine aret_pure (.inr rfl) ?_; simp +decide only [retOf, tget, if_true, if_false, ↓reduceIte, List.map_cons, List.map_nil]
    exact no fun h => e4 (by rw [h])
  have d4 : decide (a.epoch ≠ b.epoch) = false := decide_eq_false (fun h => h e4)
  by_cases e5 : (a.ids.length : Int) = (b.ids.length : Int)
  case neg =>
    have d5 : decide ((a.ids.length : Int) ≠ (b.ids.length : Int)) = true := decide_eq_true e5
    (try simp +decide (implicitDefEqProofs := false) only [go_sem, ↓stk_g, ↓stk_c, ↓reduceIte, hp_self, hb1, msgCells, postRows_len, d1, d2, d3, d4, d5])
    refine aret_pure (.inr rfl) ?_; simp +decide only [retOf, tget, if_true, if_false, ↓reduceIte, List.map_cons, List.map_nil]
    exact no fun h => e5 (by rw [h])
  have d5 : decide ((a.ids.length : Int) ≠ (b.ids.length : Int)) = false := decide_eq_false (fun h => h e5)
  by_cases e6 : (a.posts.length : Int) = (b.posts.length : Int)
  case neg =>
    have d6 : decide ((a.posts.length : Int) ≠ (b.posts.length : Int)) = true := decide_eq_true e6
    (try simp +decide (implicitDefEqProofs := false) only [go_sem, ↓stk_g, ↓stk_c, ↓reduceIte, hp_self, hb1, msgCells, postRows_len, d1, d2, d3, d4, d5, d6])
    refine aret_pure (.inr rfl) ?_; simp +decide only [retOf, tget, if_true, if_false, ↓reduceIte, List.map_cons, List.map_nil]
    exact no fun h => e6 (by rw [h])
  have d6 : decide ((a.posts.length : Int) ≠ (b.posts.length : Int)) = false := decide_eq_false (fun h => h e6)
  (try simp +decide (implicitDefEqProofs := false) only [go_sem, ↓stk_g, ↓stk_c, ↓reduceIte, hp_self, hb1, msgCells, postRows_len, d1, d2, d3, d4, d5, d6])
  refine stk_pureW ⟨[(55, .agg (polCells b.pol)), (53, .agg (polCells a.pol)), (51, .v (.bool false)), (3, .pl (msgCells b)), (2, .pl (msgCells a))], AHeap.none⟩ (Weak.list _ (Sub.none _) ?_) (psame_ok a.pol b.pol F.pol.lens G.pol.lens) fun v hv => ?_
  · (try simp +decide (implicitDefEqProofs := false) only [go_sem, ↓stk_g, ↓stk_c, ↓reduceIte, polCells, FZ_rfl])
    exact ⟨FZ.cellsR (hp_self _ _ _) rfl, FZ.cellsR (hb1 _ _) rfl⟩
  subst hv
  by_cases e7 : a.pol = b.pol
  case neg =>
    rw [decide_eq_false e7]
    (try simp +decide (implicitDefEqProofs := false) only [go_sem, ↓stk_g, ↓stk_c, ↓reduceIte])
    refine aret_pure (.inr rfl) ?_; simp +decide only [retOf, tget, if_true, if_false, ↓reduceIte, List.map_cons, List.map_nil]
    exact no fun h => e7 (by rw [h])
  rw [decide_eq_true e7]
  have la : a.ids.length = b.ids.length := by omega
  have lb : a.posts.length = b.posts.length := by omega
  (try simp +decide (implicitDefEqProofs := false) only [go_sem, ↓stk_g, ↓stk_c, ↓reduceIte])
  refine stk_up (α := Unit) a.ids.length (fun i _ => ⟨[(5, .v (.int .i64 i)), (3, .pl (msgCells b)), (2, .pl (msgCells a))], AHeap.none⟩) (fun i _ => ∀ j, j < i → a.ids.getD j ByteArray.empty = b.ids.getD j ByteArray.empty) () (Weak.list _ (Sub.refl _) ?_) (fun j h => by omega) ?_
  · (try simp +decide (implicitDefEqProofs := false) only [go_sem, ↓stk_g, ↓stk_c, ↓reduceIte])
    first | done | exact FZ.refl _ | exact ⟨FZ.refl _, FZ.refl _⟩
  rintro i ⟨⟩ hi hJ
  by_cases hlt : i < a.ids.length
  · have g1 : (i : Int) < (a.ids.length : Int) := by omega
    have g2 : (i : Int) < (b.ids.length : Int) := by omega
    have hlt2 : i < b.ids.length := by omega
    have hw := wrap_in (n := (i : Int) + 1) (by omega) (by omega)
    have hg := strRows_get hlt
    have hg2 := strRows_get hlt2
    by_cases hs : a.ids.getD i ByteArray.empty = b.ids.getD i ByteArray.empty
    · have f1 : decide (a.ids.getD i ByteArray.empty ≠ b.ids.getD i ByteArray.empty) = false := decide_eq_false (fun h => h hs)
      (try simp +decide (implicitDefEqProofs := false) only [go_sem, ↓stk_g, ↓stk_c, ↓reduceIte, msgCells, g1, g2, hlt, hlt2, hg, hg2, f1, hw])
      have hJ2 : ∀ j, j < i + 1 → a.ids.getD j ByteArray.empty = b.ids.getD j ByteArray.empty := fun j hj => by
        by_cases e : j = i
        · rw [e]; exact hs
        · exact hJ j (by omega)
      first | exact ⟨by omega, (), Weak.list _ (Sub.refl _) (by (try simp +decide (implicitDefEqProofs := false) only [go_sem, ↓stk_g, ↓stk_c, ↓reduceIte])), hJ2⟩ | exact ⟨(), Weak.list _ (Sub.refl _) (by (try simp +decide (implicitDefEqProofs := false) only [go_sem, ↓stk_g, ↓stk_c, ↓reduceIte])), hJ2⟩
    · have f1 : decide (a.ids.getD i ByteArray.empty ≠ b.ids.getD i ByteArray.empty) = true := decide_eq_true hs
      (try simp +decide (implicitDefEqProofs := false) only [go_sem, ↓stk_g, ↓stk_c, ↓reduceIte, msgCells, g1, g2, hlt, hlt2, hg, hg2, f1])
      refine aret_pure (.inr rfl) ?_; simp +decide only [retOf, tget, if_true, if_false, ↓reduceIte, List.map_cons, List.map_nil]
      exact no fun h => hs (by rw [h])
  have g1 : ¬ (i : Int) < (a.ids.length : Int) := by omega
  have eids : a.ids = b.ids := List.ext_getElem la fun j h1 h2 => by
    have := hJ j (by omega)
    simpa [h1, h2] using this
  clear hJ
  (try simp +decide (implicitDefEqProofs := false) only [go_sem, ↓stk_g, ↓stk_c, ↓reduceIte, msgCells, g1])
  refine stk_up (α := Unit) a.posts.length (fun i _ => ⟨[(6, .v (.int .i64 i)), (3, .pl (msgCells b)), (2, .pl (msgCells a))], AHeap.none⟩) (fun i _ => ∀ j, j < i → a.posts.getD j noPost = b.posts.getD j noPost) () (Weak.list _ (Sub.refl _) ?_) (fun j h => by omega) ?_
  · (try simp +decide (implicitDefEqProofs := false) only [go_sem, ↓stk_g, ↓stk_c, ↓reduceIte])
    first | done | exact FZ.refl _ | exact ⟨FZ.refl _, FZ.refl _⟩
  rintro i ⟨⟩ hi hJ
  by_cases hlt : i < a.posts.length
  · have g1 : (i : Int) < (a.posts.length : Int) := by omega
    have g2 : (i : Int) < (b.posts.length : Int) := by omega
    have hlt2 : i < b.posts.length := by omega
    have hw := wrap_in (n := (i : Int) + 1) (by omega) (by omega)
    have hg := postRows_get hlt
    have hg2 := postRows_get hlt2
    by_cases hs : a.posts.getD i noPost = b.posts.getD i noPost
    · have hs2 : (decide ((a.posts.getD i noPost).1 = (b.posts.getD i noPost).1) && decide ((a.posts.getD i noPost).2 = (b.posts.getD i noPost).2)) = true := by rw [hs]; simp
      (try simp +decide (implicitDefEqProofs := false) only [go_sem, ↓stk_g, ↓stk_c, ↓reduceIte, msgCells, postRows_len, g1, g2, hlt, hlt2, hg, hg2, steq2, hs2, hw])
      have hJ2 : ∀ j, j < i + 1 → a.posts.getD j noPost = b.posts.getD j noPost := fun j hj => by
        by_cases e : j = i
        · rw [e]; exact hs
        · exact hJ j (by omega)
      first | exact ⟨by omega, (), Weak.list _ (Sub.refl _) (by (try simp +decide (implicitDefEqProofs := false) only [go_sem, ↓stk_g, ↓stk_c, ↓reduceIte])), hJ2⟩ | exact ⟨(), Weak.list _ (Sub.refl _) (by (try simp +decide (implicitDefEqProofs := false) only [go_sem, ↓stk_g, ↓stk_c, ↓reduceIte])), hJ2⟩
    · have hs2 : (decide ((a.posts.getD i noPost).1 = (b.posts.getD i noPost).1) && decide ((a.posts.getD i noPost).2 = (b.posts.getD i noPost).2)) = false := by
        rw [Bool.and_eq_false_iff]
        by_cases h : (a.posts.getD i noPost).1 = (b.posts.getD i noPost).1
        · exact .inr (decide_eq_false fun h2 => hs (Prod.ext h h2))
        · exact .inl (decide_eq_false h)
      (try simp +decide (implicitDefEqProofs := false) only [go_sem, ↓stk_g, ↓stk_c, ↓reduceIte, msgCells, postRows_len, g1, g2, hlt, hlt2, hg, hg2, steq2, hs2])
      refine aret_pure (.inr rfl) ?_; simp +decide only [retOf, tget, if_true, if_false, ↓reduceIte, List.map_cons, List.map_nil]
      exact no fun h => hs (by rw [h])
  have g1 : ¬ (i : Int) < (a.posts.length : Int) := by omega
  have epo : a.posts = b.posts := List.ext_getElem lb fun j h1 h2 => by
    have := hJ j (by omega)
    simpa [h1, h2] using this
  clear hJ
  (try simp +decide (implicitDefEqProofs := false) only [go_sem, ↓stk_g, ↓stk_c, ↓reduceIte, msgCells, postRows_len, g1])
  refine aret_pure (.inr rfl) ?_; simp +decide only [retOf, tget, if_true, if_false, ↓reduceIte, List.map_cons, List.map_nil]
  rw [decide_eq_true (Msg.ext2 ⟨e1, e2, e3, e4, eids, epo, e7⟩)]
/-! ### Sizes; the text of a message that may be is small enough to read -/
theorem fieldS_size2 {x : Str} (h : x.size < 1000000) : (fieldS x).size ≤ x.size + 8 := by
  rw [← bl_len, fieldS_bl]
  have := dec_len h
  have := bl_len x
  simp only [List.length_append, List.length_cons, List.length_nil]; omega
theorem catR_size2 {M : Nat} (hM : M < 1000000) : ∀ (l : List Str), (∀ x ∈ l, x.size ≤ M) → (catR l).size ≤ l.length * (M + 8)
  | [], _ => by show ByteArray.empty.size ≤ _; simp
  | x :: l, h => by
    have h1 := catR_size2 hM l (fun y hy => h y (by simp [hy]))
    have h2 := h x (by simp)
    have h3 := fieldS_size2 (x := x) (by omega)
    show (fieldS x ++ catR l : Str).size ≤ _
    rw [ByteArray.size_append, List.length_cons, Nat.succ_mul]
    omega
theorem msgT_len {m : Msg} (hm : rightM m = true) : (msgT m).size ≤ 300000 := by
  have R := rightM_facts hm
  have h4 := R.kind
  have hn := numsM_size R
  have i1 := R.ids; have i2 := R.posts
  rw [msgT_cat]
  unfold fieldsM restM
  by_cases k1 : m.kind = 1
  · rw [if_pos k1]
    have := catR_size2 (M := 2000) (by omega) (numsM m ++ itoaS (m.ids.length : Int) :: m.ids) (fun x hx => by
      rcases List.mem_append.1 hx with h | h
      · have := hn x h; omega
      · rcases List.mem_cons.1 h with rfl | h
        · have := itoa_len (m.ids.length : Int) (by omega) (by omega); omega
        · have := i1.2 x h; omega)
    rw [List.length_append, List.length_cons, show (numsM m).length = 4 from rfl] at this
    omega
  rw [if_neg k1]
  by_cases k2 : m.kind = 2
  · rw [if_pos k2]
    have := catR_size2 (M := 2000) (by omega) (numsM m ++ itoaS (m.posts.length : Int) :: flatP m.posts) (fun x hx => by
      rcases List.mem_append.1 hx with h | h
      · have := hn x h; omega
      · rcases List.mem_cons.1 h with rfl | h
        · have := itoa_len (m.posts.length : Int) (by omega) (by omega); omega
        · obtain ⟨p, hp, e⟩ := flatP_mem _ x h
          have := i2.2 p hp
          rcases e with rfl | rfl <;> omega)
    rw [List.length_append, List.length_cons, flatP_len, show (numsM m).length = 4 from rfl] at this
    omega
  rw [if_neg k2]
  by_cases k3 : m.kind = 3
  · rw [if_pos k3]
    have := catR_size2 (M := 19000) (by omega) (numsM m ++ [textP m.pol]) (fun x hx => by
      rcases List.mem_append.1 hx with h | h
      · have := hn x h; omega
      · rw [List.mem_singleton.1 h]; exact textP_len (R.pol k3))
    rw [List.length_append, show (numsM m).length = 4 from rfl] at this
    simp at this; omega
  · rw [if_neg k3, List.append_nil]
    have := catR_size2 (M := 2000) (by omega) (numsM m) (fun x hx => by have := hn x hx; omega)
    rw [show (numsM m).length = 4 from rfl] at this
    omega
theorem parse_size : ∀ (n : Nat) (s : Str) (l : List Str), parseF n s = .inr l → ∀ x ∈ l, x.size ≤ s.size
  | 0, s, l, h, x, hx => by cases h; cases hx
  | n + 1, s, l, h, x, hx => by
    by_cases hs : s = ByteArray.empty
    · rw [hs, parseF_nil] at h; cases h; cases hx
    by_cases he : (fieldV s).2.2 = 0
    · rw [parseF_step hs he] at h
      obtain ⟨z1, z2⟩ := fieldV_size he
      cases hp : parseF n (fieldV s).2.1 with
      | inl e' => rw [hp] at h; cases h
      | inr l' =>
        rw [hp] at h
        cases h
        rcases List.mem_append.1 hx with h | h
        · rw [List.mem_singleton.1 h]; exact z1
        · have := parse_size n _ l' hp x h; omega
    · rw [parseF_err hs he] at h; cases h
theorem getD_mem {l : List Str} (h : l.length = 1) : l.getD 0 ByteArray.empty ∈ l := by
  match l, h with
  | [a], _ => simp
theorem hsm_small {s : Str} (hs : s.size ≤ 19000) : ∀ l, parseF s.size s = .inr l → numN (l.getD 0 ByteArray.empty) = 3 → (l.drop 4).length = 1 → ((l.drop 4).getD 0 ByteArray.empty).size ≤ 19000 := fun l h _ h1 => by
  have := parse_size _ _ l h _ (List.mem_of_mem_drop (getD_mem h1))
  omega
theorem hsm_text {m : Msg} (hm : rightM m = true) : ∀ l, parseF (msgT m).size (msgT m) = .inr l → numN (l.getD 0 ByteArray.empty) = 3 → (l.drop 4).length = 1 → ((l.drop 4).getD 0 ByteArray.empty).size ≤ 19000 := fun l h hk h1 => by
  have R := rightM_facts hm
  rw [msgT_cat, parse_cat _ (fieldsM_size hm)] at h
  cases h
  have h4 := R.kind
  have e : numN ((fieldsM m).getD 0 ByteArray.empty) = m.kind := numN_itoa m.kind (by omega) (by omega)
  rw [e] at hk
  have hd : (fieldsM m).drop 4 = [textP m.pol] := by
    show restM m = _
    unfold restM
    rw [if_neg (by omega), if_neg (by omega), if_pos hk]
  rw [hd]
  exact textP_len (R.pol hk)
/-! ### The laws' own check -/
def mA : Msg := ⟨4, 1, 0, 2, [], [], pol0⟩
theorem mA_right : rightM mA = true := by decide +kernel
def awakeM : Str := ⟨#[49, 58, 52, 44, 49, 58, 49, 44, 49, 58, 48, 44, 49, 58, 50, 44]⟩
theorem field_dig {n : Nat} (h : n < 10) : bl (fieldS (itoaS (n : Int))) = [49, 58, UInt8.ofNat (48 + n), 44] := by
  have e := bl_itoa n
  rw [Lib.decDigits_one h] at e
  have hz : (itoaS (n : Int)).size = 1 := by rw [← bl_len, e]; rfl
  rw [fieldS_bl, e, hz, Lib.decDigits_one (by omega)]
  rfl
theorem mA_text : msgT mA = awakeM := bl_inj (by
  rw [msgT_cat]
  show bl (fieldS (itoaS ((4 : Nat) : Int)) ++ (fieldS (itoaS ((1 : Nat) : Int)) ++ (fieldS (itoaS ((0 : Nat) : Int)) ++ (fieldS (itoaS ((2 : Nat) : Int)) ++ ByteArray.empty : Str) : Str) : Str) : Str) = _
  rw [bl_app, bl_app, bl_app, bl_app, field_dig (by omega), field_dig (by omega), field_dig (by omega), field_dig (by omega)]
  rfl)
theorem mA_fits : MFits mA := ⟨by decide, by decide, (pol0_small 0 0).fits (by omega) (by omega)⟩
def c_mawake : AFn := ⟨0, 30, [0],
  .seq (.ops [⟨(some 0), none, .q (.mv (.const (.bool false)))⟩])
  (.seq (.ops [⟨(some 6), none, .q (.bld [(.int .i64 0), (.int .i64 0), (.int .i64 0), (.int .i64 0), (.slice none 0 0), (.slice none 0 0), (.int .i64 0), (.slice none 0 0), (.slice none 0 0), (.slice none 0 0), (.slice none 0 0), (.slice none 0 0), (.int .i64 0), (.int .i64 0), (.int .i64 0)] [(0, 1, (.const (.int .i64 4))), (1, 1, (.const (.int .i64 1))), (3, 1, (.const (.int .i64 2)))])⟩,
      ⟨(some 7), none, .e (.call 7 [(.tmp 6)])⟩,
      ⟨(some 5), none, .q (.mv (.tmp 7))⟩,
      ⟨(some 8), none, .q (.ext (.tmp 5) 0)⟩,
      ⟨(some 9), none, .q (.ext (.tmp 5) 1)⟩,
      ⟨(some 1), none, .q (.mv (.tmp 8))⟩,
      ⟨(some 2), none, .q (.mv (.tmp 9))⟩])
  (.seq (.ops [⟨(some 11), none, .q (.mv (.tmp 1))⟩,
      ⟨(some 12), none, .e (.call 11 [(.tmp 11)])⟩,
      ⟨(some 10), none, .q (.mv (.tmp 12))⟩,
      ⟨(some 13), none, .q (.ext (.tmp 10) 0)⟩,
      ⟨(some 14), none, .q (.ext (.tmp 10) 1)⟩,
      ⟨(some 3), none, .e (.alloc 27 [(.int .i64 0), (.int .i64 0), (.int .i64 0), (.int .i64 0), (.slice none 0 0), (.slice none 0 0), (.int .i64 0), (.slice none 0 0), (.slice none 0 0), (.slice none 0 0), (.slice none 0 0), (.slice none 0 0), (.int .i64 0), (.int .i64 0), (.int .i64 0)])⟩,
      ⟨none, none, .e (.st 15 (.tmp 3) (.tmp 13))⟩,
      ⟨(some 4), none, .q (.mv (.tmp 14))⟩])
  (.seq (.ops [⟨(some 15), none, .q (.mv (.tmp 1))⟩,
      ⟨(some 16), none, .q (.bin .eql .num (.tmp 15) (.const (.string ⟨#[49, 58, 52, 44, 49, 58, 49, 44, 49, 58, 48, 44, 49, 58, 50, 44]⟩)))⟩,
      ⟨(some 17), none, .q (.mv (.tmp 16))⟩,
      ⟨(some 18), (some (17, true)), .q (.mv (.tmp 2))⟩,
      ⟨(some 19), (some (17, true)), .q (.bin .eql .num (.tmp 18) (.const (.int .i64 0)))⟩,
      ⟨(some 20), none, .q (.pick (.tmp 17) (.tmp 19) (.const (.bool false)))⟩,
      ⟨(some 21), none, .q (.mv (.tmp 20))⟩,
      ⟨(some 22), (some (21, true)), .q (.mv (.tmp 4))⟩,
      ⟨(some 23), (some (21, true)), .q (.bin .eql .num (.tmp 22) (.const (.int .i64 0)))⟩,
      ⟨(some 24), none, .q (.pick (.tmp 21) (.tmp 23) (.const (.bool false)))⟩,
      ⟨(some 25), none, .q (.mv (.tmp 24))⟩,
      ⟨(some 26), (some (25, true)), .q (.fad 3 1 (.tmp 3))⟩,
      ⟨(some 27), (some (25, true)), .q (.ld false 1 (.tmp 26))⟩,
      ⟨(some 28), (some (25, true)), .q (.bin .eql .num (.tmp 27) (.const (.int .i64 2)))⟩,
      ⟨(some 29), none, .q (.pick (.tmp 25) (.tmp 28) (.const (.bool false)))⟩,
      ⟨(some 0), none, .q (.mv (.tmp 29))⟩])
  (.ret)))), []⟩
theorem k_mawake : compF Tryz.prog 5 = some c_mawake := by kernel_rfl
set_option maxHeartbeats 8000000 in
theorem mawake_ok {W : World} (L : Laid W) (E : Errs W) : ACalls Tryz.prog W 5 [] AHeap.none fun v _ => v = .v (.bool true) := by
  refine fn_run follows k_mawake rfl ?_
  simp only [c_mawake, aretC_nil, List.zipIdx_cons, List.zipIdx_nil, List.map_cons, List.map_nil, Nat.zero_add]
  (try simp +decide (implicitDefEqProofs := false) only [go_sem, ↓stk_g, ↓stk_c, ↓reduceIte])
  refine stk_pureW ⟨[(6, .agg (msgCells mA))], AHeap.none⟩ (Weak.list _ (Sub.refl _) ?_) (encode_ok L mA mA_fits) fun v hv => ?_
  · (try simp +decide (implicitDefEqProofs := false) only [go_sem, ↓stk_g, ↓stk_c, ↓reduceIte])
    exact .agg rfl (msgCells_one _) (FZ.msgX (m := mA) (.nil 1) (.nil 2) (.nil 1) (.nil 1) (.nil 1) (.nil 1) (.nil 1))
  unfold encR at hv
  rw [mA_right, if_pos rfl, mA_text] at hv
  subst hv
  (try simp +decide (implicitDefEqProofs := false) only [go_sem, ↓stk_g, ↓stk_c, ↓reduceIte])
  have hdec := decode_back mA_right
  rw [mA_text] at hdec
  refine stk_pure (decode_ok L E awakeM (by decide) (by have := hsm_text mA_right; rw [mA_text] at this; exact this)) fun v hv => ?_
  rw [hdec] at hv
  subst hv
  unfold decodeA
  have ht : decide (awakeM = (⟨#[49, 58, 52, 44, 49, 58, 49, 44, 49, 58, 48, 44, 49, 58, 50, 44]⟩ : ByteArray)) = true := decide_eq_true rfl
  (try simp +decide (implicitDefEqProofs := false) only [go_sem, ↓stk_g, ↓stk_c, ↓reduceIte, msgCells, mA])
  rw [stk_alloc]
  intro b hb
  (try simp +decide (implicitDefEqProofs := false) only [go_sem, ↓stk_g, ↓stk_c, ↓reduceIte, hp_self, msgCells, mA, ht])
  refine aret_pure (.inr rfl) ?_; simp +decide only [retOf, tget, if_true, if_false, ↓reduceIte, List.map_cons, List.map_nil]
end Go.Proofs.YtcplmaffccfbdaaGreatDoor.M
