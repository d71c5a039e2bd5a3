/-
  The document's own sameList and Same of layer 8: they tell whether two policies are one, walked.
-/
import Derived.Test.YtcplmaffccfbdaaGreatDoorPd
namespace Go.Proofs.YtcplmaffccfbdaaGreatDoor.M
open Go.RowKit
attribute [local go_sem] stk_nil stk_skip stk_ops stk_seq stk_block stk_scope stk_exit stk_ret stk_code_exit stk_code_ret stk_ops_exit stk_ops_ret stk_endb stk_endb_exit stk_endb_ret stk_endl stk_endl_exit stk_endl_ret stk_ops_nil stk_q stk_niq niqA flip srcOf stk_bsl side val bside bval uside uval cside cval bndS bndV intA isInt lside lval fside fval faside faval iside ival sxside sxval sizeA slside slval llside llval lenside lenval lenA tupA mmside mmval nkside boolA isBool ev_t ev_c tget put_s put_n lkside lkval menval stk_mk Option.isSome_some isMapA mapA keyA FZ_rfl FZ_any retOf true_and and_true if_true if_false decide_true decide_false Bool.not_true Bool.not_false Nat.zero_add List.map_cons List.map_nil Int.toNat_natCast strRows_len intRows_len List.getD_cons_zero List.getD_cons_succ List.length_cons List.length_nil List.forall_mem_cons List.not_mem_nil false_implies implies_true Int.ofNat_zero Int.natCast_add Int.natCast_one Int.ofNat_one Int.natCast_zero isB isU Bool.false_eq_true beq_self_eq_true Bool.false_beq Bool.true_beq Int.natCast_nonneg undef strRows_take strRows_drop Int.toNat_zero List.drop_zero Bool.and_true oneOr List.all_cons List.all_nil AVal.one Value.oneCell' Bool.true_and List.take_length stk_st' stside stH hp_self hp_hp isnside isnval
set_option linter.unusedVariables false
set_option linter.unusedSimpArgs false
def c_sameList : AFn := ⟨2, 26, [4],
  .seq (.ops [⟨(some 4), none, .q (.mv (.const (.bool false)))⟩])
  (.seq (.seq (.ops [⟨(some 6), none, .q (.mv (.tmp 0))⟩,
      ⟨(some 7), none, .q (.len false (.tmp 6))⟩,
      ⟨(some 8), none, .q (.mv (.tmp 1))⟩,
      ⟨(some 9), none, .q (.len false (.tmp 8))⟩,
      ⟨(some 10), none, .q (.bin .neq .num (.tmp 7) (.tmp 9))⟩])
  (.cond (.tmp 10)
    (.seq (.ops [⟨(some 4), none, .q (.mv (.const (.bool false)))⟩])
    (.ret))
    (.skip)))
  (.seq (.seq (.ops [⟨(some 5), none, .q (.mv (.const (.int .i64 0)))⟩])
  (.block 0 (.loop (.seq (.seq (.ops [⟨(some 11), none, .q (.mv (.tmp 5))⟩,
          ⟨(some 12), none, .q (.mv (.tmp 0))⟩,
          ⟨(some 13), none, .q (.len false (.tmp 12))⟩,
          ⟨(some 14), none, .q (.bin .lss .num (.tmp 11) (.tmp 13))⟩])
      (.cond (.tmp 14)
        (.skip)
        (.exit 0)))
      (.seq (.block 1 (.seq (.ops [⟨(some 17), none, .q (.mv (.tmp 0))⟩,
            ⟨(some 18), none, .q (.mv (.tmp 5))⟩,
            ⟨(some 19), none, .q (.ixa 1 (.tmp 17) (.tmp 18))⟩,
            ⟨(some 20), none, .q (.ld false 1 (.tmp 19))⟩,
            ⟨(some 21), none, .q (.mv (.tmp 1))⟩,
            ⟨(some 22), none, .q (.mv (.tmp 5))⟩,
            ⟨(some 23), none, .q (.ixa 1 (.tmp 21) (.tmp 22))⟩,
            ⟨(some 24), none, .q (.ld false 1 (.tmp 23))⟩,
            ⟨(some 25), none, .q (.bin .neq .num (.tmp 20) (.tmp 24))⟩])
        (.cond (.tmp 25)
          (.seq (.ops [⟨(some 4), none, .q (.mv (.const (.bool false)))⟩])
          (.ret))
          (.skip))))
      (.ops [⟨(some 15), none, .q (.mv (.tmp 5))⟩,
          ⟨(some 16), none, .q (.bin .add .num (.tmp 15) (.const (.int .i64 1)))⟩,
          ⟨(some 5), none, .q (.mv (.tmp 16))⟩]))))))
  (.seq (.ops [⟨(some 4), none, .q (.mv (.const (.bool true)))⟩])
  (.ret)))), []⟩
theorem k_sameList : compF Tryz.prog 49 = some c_sameList := by kernel_rfl
set_option maxHeartbeats 2000000 in
theorem sameList_ok {W : World} {f g : Bool} (a b : List Str) (hla : a.length ≤ 1000000000) (hlb : b.length ≤ 1000000000) : ACalls Tryz.prog W 49 [.sl f 1 (strRows a), .sl g 1 (strRows b)] AHeap.none fun v _ => v = .v (.bool (decide (a = b))) := by
  refine fn_run follows k_sameList rfl ?_
  simp only [c_sameList, aretC_nil, List.zipIdx_cons, List.zipIdx_nil, List.map_cons, List.map_nil, Nat.zero_add]
  by_cases hl : a.length = b.length
  case neg =>
    have g0 : decide ((a.length : Int) ≠ (b.length : Int)) = true := decide_eq_true (by omega)
    (try simp +decide (implicitDefEqProofs := false) only [go_sem, ↓stk_g, ↓stk_c, ↓reduceIte, g0])
    refine aret_pure (.inr rfl) ?_; simp +decide only [retOf, tget, if_true, if_false, ↓reduceIte, List.map_cons, List.map_nil]
    rw [decide_eq_false (fun e => hl (by rw [e]))]
  have g0 : decide ((a.length : Int) ≠ (b.length : Int)) = false := decide_eq_false (by omega)
  (try simp +decide (implicitDefEqProofs := false) only [go_sem, ↓stk_g, ↓stk_c, ↓reduceIte, g0])
  refine stk_up (α := Unit) a.length (fun i _ => ⟨[(5, .v (.int .i64 i)), (0, .sl f 1 (strRows a)), (1, .sl g 1 (strRows b))], AHeap.none⟩) (fun i _ => ∀ j, j < i → a.getD j ByteArray.empty = b.getD j ByteArray.empty) () (Weak.list _ (Sub.refl _) ?_) (fun j h => by omega) ?_
  · (try simp +decide (implicitDefEqProofs := false) only [go_sem, ↓stk_g, ↓stk_c, ↓reduceIte])
    first | done | exact FZ.refl _ | exact ⟨FZ.refl _, FZ.refl _⟩
  rintro i ⟨⟩ hi hJ
  by_cases hlt : i < a.length
  · have g1 : (i : Int) < (a.length : Int) := by omega
    have hlt2 : i < b.length := by omega
    have g3 : (i : Int) < (b.length : Int) := by omega
    have hw := wrap_in (n := (i : Int) + 1) (by omega) (by omega)
    have hg := strRows_get hlt
    have hg2 := strRows_get hlt2
    by_cases hs : a.getD i ByteArray.empty = b.getD i ByteArray.empty
    · have g2 : decide (a.getD i ByteArray.empty ≠ b.getD i ByteArray.empty) = false := decide_eq_false (fun h => h hs)
      (try simp +decide (implicitDefEqProofs := false) only [go_sem, ↓stk_g, ↓stk_c, ↓reduceIte, g1, g3, hlt, hlt2, hg, hg2, g2, hw])
      have hJ2 : ∀ j, j < i + 1 → a.getD j ByteArray.empty = b.getD j ByteArray.empty := fun j hj => by
        by_cases e : j = i
        · rw [e]; exact hs
        · exact hJ j (by omega)
      first | exact ⟨by omega, (), Weak.list _ (Sub.refl _) (by (try simp +decide (implicitDefEqProofs := false) only [go_sem, ↓stk_g, ↓stk_c, ↓reduceIte])), hJ2⟩ | exact ⟨(), Weak.list _ (Sub.refl _) (by (try simp +decide (implicitDefEqProofs := false) only [go_sem, ↓stk_g, ↓stk_c, ↓reduceIte])), hJ2⟩
    · have g2 : decide (a.getD i ByteArray.empty ≠ b.getD i ByteArray.empty) = true := decide_eq_true hs
      (try simp +decide (implicitDefEqProofs := false) only [go_sem, ↓stk_g, ↓stk_c, ↓reduceIte, g1, g3, hlt, hlt2, hg, hg2, g2])
      refine aret_pure (.inr rfl) ?_; simp +decide only [retOf, tget, if_true, if_false, ↓reduceIte, List.map_cons, List.map_nil]
      rw [decide_eq_false (fun e => hs (by rw [e]))]
  · have g1 : ¬ (i : Int) < (a.length : Int) := by omega
    (try simp +decide (implicitDefEqProofs := false) only [go_sem, ↓stk_g, ↓stk_c, ↓reduceIte, g1])
    refine aret_pure (.inr rfl) ?_; simp +decide only [retOf, tget, if_true, if_false, ↓reduceIte, List.map_cons, List.map_nil]
    have : a = b := List.ext_getElem hl fun j h1 h2 => by
      have := hJ j (by omega)
      simpa [h1, h2] using this
    rw [decide_eq_true this]
theorem Pol.ext2 {p q : Pol} (h : p.epoch = q.epoch ∧ p.elems = q.elems ∧ p.attrs = q.attrs ∧ p.schemes = q.schemes ∧ p.classes = q.classes ∧ p.props = q.props ∧ p.depth = q.depth ∧ p.nodes = q.nodes ∧ p.bytes = q.bytes) : p = q := by
  obtain ⟨a1, a2, a3, a4, a5, a6, a7, a8, a9⟩ := p
  obtain ⟨b1, b2, b3, b4, b5, b6, b7, b8, b9⟩ := q
  obtain ⟨h1, h2, h3, h4, h5, h6, h7, h8, h9⟩ := h
  subst h1; subst h2; subst h3; subst h4; subst h5; subst h6; subst h7; subst h8; subst h9
  rfl
/-- A policy's lists are not too long to count. -/
structure Lens9 (p : Pol) : Prop where
  elems : p.elems.length ≤ 1000000000
  attrs : p.attrs.length ≤ 1000000000
  schemes : p.schemes.length ≤ 1000000000
  classes : p.classes.length ≤ 1000000000
  props : p.props.length ≤ 1000000000
instance : DecidableEq Pol := fun p q => decidable_of_iff (p.epoch = q.epoch ∧ p.elems = q.elems ∧ p.attrs = q.attrs ∧ p.schemes = q.schemes ∧ p.classes = q.classes ∧ p.props = q.props ∧ p.depth = q.depth ∧ p.nodes = q.nodes ∧ p.bytes = q.bytes) ⟨Pol.ext2, fun h => by subst h; simp⟩
def c_Same : AFn := ⟨2, 66, [4],
  .seq (.ops [⟨(some 2), none, .e (.box 25 (.tmp 0))⟩,
      ⟨(some 3), none, .e (.box 25 (.tmp 1))⟩,
      ⟨(some 4), none, .q (.mv (.const (.bool false)))⟩])
  (.seq (.ops [⟨(some 5), none, .q (.fad 0 1 (.tmp 2))⟩,
      ⟨(some 6), none, .q (.ld false 1 (.tmp 5))⟩,
      ⟨(some 7), none, .q (.fad 0 1 (.tmp 3))⟩,
      ⟨(some 8), none, .q (.ld false 1 (.tmp 7))⟩,
      ⟨(some 9), none, .q (.bin .eql .num (.tmp 6) (.tmp 8))⟩,
      ⟨(some 10), none, .q (.mv (.tmp 9))⟩,
      ⟨(some 11), (some (10, true)), .q (.fad 1 1 (.tmp 2))⟩,
      ⟨(some 12), (some (10, true)), .q (.ld false 1 (.tmp 11))⟩,
      ⟨(some 13), (some (10, true)), .q (.fad 1 1 (.tmp 3))⟩,
      ⟨(some 14), (some (10, true)), .q (.ld false 1 (.tmp 13))⟩,
      ⟨(some 15), (some (10, true)), .e (.call 49 [(.tmp 12), (.tmp 14)])⟩,
      ⟨(some 16), none, .q (.pick (.tmp 10) (.tmp 15) (.const (.bool false)))⟩,
      ⟨(some 17), none, .q (.mv (.tmp 16))⟩,
      ⟨(some 18), (some (17, true)), .q (.fad 2 1 (.tmp 2))⟩,
      ⟨(some 19), (some (17, true)), .q (.ld false 1 (.tmp 18))⟩,
      ⟨(some 20), (some (17, true)), .q (.fad 2 1 (.tmp 3))⟩,
      ⟨(some 21), (some (17, true)), .q (.ld false 1 (.tmp 20))⟩,
      ⟨(some 22), (some (17, true)), .e (.call 49 [(.tmp 19), (.tmp 21)])⟩,
      ⟨(some 23), none, .q (.pick (.tmp 17) (.tmp 22) (.const (.bool false)))⟩,
      ⟨(some 24), none, .q (.mv (.tmp 23))⟩,
      ⟨(some 25), (some (24, true)), .q (.fad 3 1 (.tmp 2))⟩,
      ⟨(some 26), (some (24, true)), .q (.ld false 1 (.tmp 25))⟩,
      ⟨(some 27), (some (24, true)), .q (.fad 3 1 (.tmp 3))⟩,
      ⟨(some 28), (some (24, true)), .q (.ld false 1 (.tmp 27))⟩,
      ⟨(some 29), (some (24, true)), .e (.call 49 [(.tmp 26), (.tmp 28)])⟩,
      ⟨(some 30), none, .q (.pick (.tmp 24) (.tmp 29) (.const (.bool false)))⟩,
      ⟨(some 31), none, .q (.mv (.tmp 30))⟩,
      ⟨(some 32), (some (31, true)), .q (.fad 4 1 (.tmp 2))⟩,
      ⟨(some 33), (some (31, true)), .q (.ld false 1 (.tmp 32))⟩,
      ⟨(some 34), (some (31, true)), .q (.fad 4 1 (.tmp 3))⟩,
      ⟨(some 35), (some (31, true)), .q (.ld false 1 (.tmp 34))⟩,
      ⟨(some 36), (some (31, true)), .e (.call 49 [(.tmp 33), (.tmp 35)])⟩,
      ⟨(some 37), none, .q (.pick (.tmp 31) (.tmp 36) (.const (.bool false)))⟩,
      ⟨(some 38), none, .q (.mv (.tmp 37))⟩,
      ⟨(some 39), (some (38, true)), .q (.fad 5 1 (.tmp 2))⟩,
      ⟨(some 40), (some (38, true)), .q (.ld false 1 (.tmp 39))⟩,
      ⟨(some 41), (some (38, true)), .q (.fad 5 1 (.tmp 3))⟩,
      ⟨(some 42), (some (38, true)), .q (.ld false 1 (.tmp 41))⟩,
      ⟨(some 43), (some (38, true)), .e (.call 49 [(.tmp 40), (.tmp 42)])⟩,
      ⟨(some 44), none, .q (.pick (.tmp 38) (.tmp 43) (.const (.bool false)))⟩,
      ⟨(some 45), none, .q (.mv (.tmp 44))⟩,
      ⟨(some 46), (some (45, true)), .q (.fad 6 1 (.tmp 2))⟩,
      ⟨(some 47), (some (45, true)), .q (.ld false 1 (.tmp 46))⟩,
      ⟨(some 48), (some (45, true)), .q (.fad 6 1 (.tmp 3))⟩,
      ⟨(some 49), (some (45, true)), .q (.ld false 1 (.tmp 48))⟩,
      ⟨(some 50), (some (45, true)), .q (.bin .eql .num (.tmp 47) (.tmp 49))⟩,
      ⟨(some 51), none, .q (.pick (.tmp 45) (.tmp 50) (.const (.bool false)))⟩,
      ⟨(some 52), none, .q (.mv (.tmp 51))⟩,
      ⟨(some 53), (some (52, true)), .q (.fad 7 1 (.tmp 2))⟩,
      ⟨(some 54), (some (52, true)), .q (.ld false 1 (.tmp 53))⟩,
      ⟨(some 55), (some (52, true)), .q (.fad 7 1 (.tmp 3))⟩,
      ⟨(some 56), (some (52, true)), .q (.ld false 1 (.tmp 55))⟩,
      ⟨(some 57), (some (52, true)), .q (.bin .eql .num (.tmp 54) (.tmp 56))⟩,
      ⟨(some 58), none, .q (.pick (.tmp 52) (.tmp 57) (.const (.bool false)))⟩,
      ⟨(some 59), none, .q (.mv (.tmp 58))⟩,
      ⟨(some 60), (some (59, true)), .q (.fad 8 1 (.tmp 2))⟩,
      ⟨(some 61), (some (59, true)), .q (.ld false 1 (.tmp 60))⟩,
      ⟨(some 62), (some (59, true)), .q (.fad 8 1 (.tmp 3))⟩,
      ⟨(some 63), (some (59, true)), .q (.ld false 1 (.tmp 62))⟩,
      ⟨(some 64), (some (59, true)), .q (.bin .eql .num (.tmp 61) (.tmp 63))⟩,
      ⟨(some 65), none, .q (.pick (.tmp 59) (.tmp 64) (.const (.bool false)))⟩,
      ⟨(some 4), none, .q (.mv (.tmp 65))⟩])
  (.ret)), []⟩
theorem k_Same : compF Tryz.prog 23 = some c_Same := by kernel_rfl
set_option maxHeartbeats 8000000 in
theorem psame_ok {W : World} (p q : Pol) (F : Lens9 p) (G : Lens9 q) : ACalls Tryz.prog W 23 [.agg (polCells p), .agg (polCells q)] AHeap.none fun v _ => v = .v (.bool (decide (p = q))) := by
  have F1 := F.elems; have F2 := F.attrs; have F3 := F.schemes; have F4 := F.classes; have F5 := F.props
  have G1 := G.elems; have G2 := G.attrs; have G3 := G.schemes; have G4 := G.classes; have G5 := G.props
  refine fn_run follows k_Same rfl ?_
  simp only [c_Same, aretC_nil, List.zipIdx_cons, List.zipIdx_nil, List.map_cons, List.map_nil, Nat.zero_add]
  (try simp +decide (implicitDefEqProofs := false) only [go_sem, ↓stk_g, ↓stk_c, ↓reduceIte])
  rw [stk_box]
  refine ⟨by rfl, fun b1 h1 => ?_⟩
  (try simp +decide (implicitDefEqProofs := false) only [go_sem, ↓stk_g, ↓stk_c, ↓reduceIte])
  rw [stk_box]
  refine ⟨by rfl, fun b2 h2 => ?_⟩
  have n2 := new_ne (hp_self _ _ _) h2
  have n2' := n2.symm
  have no : ∀ (h : p ≠ q), AVal.v (.bool false) = .v (.bool (decide (p = q))) := fun h => by rw [decide_eq_false h]
  by_cases e0 : p.epoch = q.epoch
  case neg =>
    have d0 := decide_eq_false e0
    (try simp +decide (implicitDefEqProofs := false) only [go_sem, ↓stk_g, ↓stk_c, ↓reduceIte, hp_ne, n2, n2', ne_eq, not_false_eq_true, polCells, d0, lay, oneOr, List.take_succ_cons, List.take_zero, List.drop_succ_cons, List.drop_zero, List.nil_append, List.cons_append, Option.getD_some, Nat.reduceAdd, Nat.reduceLeDiff, List.append_nil, and_self, List.all_cons, List.all_nil])
    refine aret_pure (.inr rfl) ?_; simp +decide only [retOf, tget, if_true, if_false, ↓reduceIte, List.map_cons, List.map_nil]
    exact no fun h => e0 (by rw [h])
  have d0 := decide_eq_true e0
  (try simp +decide (implicitDefEqProofs := false) only [go_sem, ↓stk_g, ↓stk_c, ↓reduceIte, hp_ne, n2, n2', ne_eq, not_false_eq_true, polCells, d0, lay, oneOr, List.take_succ_cons, List.take_zero, List.drop_succ_cons, List.drop_zero, List.nil_append, List.cons_append, Option.getD_some, Nat.reduceAdd, Nat.reduceLeDiff, List.append_nil, and_self, List.all_cons, List.all_nil])
  refine stk_pureW ⟨[(14, .sl false 1 (strRows q.elems)), (12, .sl false 1 (strRows p.elems)), (3, .pl (polCells q)), (2, .pl (polCells p)), (10, .v (.bool true))], AHeap.none⟩ (Weak.list _ (Sub.none _) ?_) (sameList_ok p.elems q.elems (by omega) (by omega)) fun v hv => ?_
  · (try simp +decide (implicitDefEqProofs := false) only [go_sem, ↓stk_g, ↓stk_c, ↓reduceIte])
    exact ⟨FZ.cellsR (hp_self _ _ _) rfl, FZ.cellsR ((hp_ne _ _ n2').trans (hp_self _ _ _)) rfl⟩
  clear n2 n2' h1 h2
  subst hv
  by_cases e1 : p.elems = q.elems
  case neg =>
    have d1 := decide_eq_false e1
    rw [d1]
    (try simp +decide (implicitDefEqProofs := false) only [go_sem, ↓stk_g, ↓stk_c, ↓reduceIte, polCells, lay, oneOr, List.take_succ_cons, List.take_zero, List.drop_succ_cons, List.drop_zero, List.nil_append, List.cons_append, Option.getD_some, Nat.reduceAdd, Nat.reduceLeDiff, List.append_nil, and_self, List.all_cons, List.all_nil])
    refine aret_pure (.inr rfl) ?_; simp +decide only [retOf, tget, if_true, if_false, ↓reduceIte, List.map_cons, List.map_nil]
    exact no fun h => e1 (by rw [h])
  have d1 := decide_eq_true e1
  rw [d1]
  (try simp +decide (implicitDefEqProofs := false) only [go_sem, ↓stk_g, ↓stk_c, ↓reduceIte, polCells, lay, oneOr, List.take_succ_cons, List.take_zero, List.drop_succ_cons, List.drop_zero, List.nil_append, List.cons_append, Option.getD_some, Nat.reduceAdd, Nat.reduceLeDiff, List.append_nil, and_self, List.all_cons, List.all_nil])
  refine stk_pure (sameList_ok p.attrs q.attrs (by omega) (by omega)) fun v hv => ?_
  subst hv
  by_cases e2 : p.attrs = q.attrs
  case neg =>
    have d2 := decide_eq_false e2
    rw [d2]
    (try simp +decide (implicitDefEqProofs := false) only [go_sem, ↓stk_g, ↓stk_c, ↓reduceIte, polCells, lay, oneOr, List.take_succ_cons, List.take_zero, List.drop_succ_cons, List.drop_zero, List.nil_append, List.cons_append, Option.getD_some, Nat.reduceAdd, Nat.reduceLeDiff, List.append_nil, and_self, List.all_cons, List.all_nil])
    refine aret_pure (.inr rfl) ?_; simp +decide only [retOf, tget, if_true, if_false, ↓reduceIte, List.map_cons, List.map_nil]
    exact no fun h => e2 (by rw [h])
  have d2 := decide_eq_true e2
  rw [d2]
  (try simp +decide (implicitDefEqProofs := false) only [go_sem, ↓stk_g, ↓stk_c, ↓reduceIte, polCells, lay, oneOr, List.take_succ_cons, List.take_zero, List.drop_succ_cons, List.drop_zero, List.nil_append, List.cons_append, Option.getD_some, Nat.reduceAdd, Nat.reduceLeDiff, List.append_nil, and_self, List.all_cons, List.all_nil])
  refine stk_pure (sameList_ok p.schemes q.schemes (by omega) (by omega)) fun v hv => ?_
  subst hv
  by_cases e3 : p.schemes = q.schemes
  case neg =>
    have d3 := decide_eq_false e3
    rw [d3]
    (try simp +decide (implicitDefEqProofs := false) only [go_sem, ↓stk_g, ↓stk_c, ↓reduceIte, polCells, lay, oneOr, List.take_succ_cons, List.take_zero, List.drop_succ_cons, List.drop_zero, List.nil_append, List.cons_append, Option.getD_some, Nat.reduceAdd, Nat.reduceLeDiff, List.append_nil, and_self, List.all_cons, List.all_nil])
    refine aret_pure (.inr rfl) ?_; simp +decide only [retOf, tget, if_true, if_false, ↓reduceIte, List.map_cons, List.map_nil]
    exact no fun h => e3 (by rw [h])
  have d3 := decide_eq_true e3
  rw [d3]
  (try simp +decide (implicitDefEqProofs := false) only [go_sem, ↓stk_g, ↓stk_c, ↓reduceIte, polCells, lay, oneOr, List.take_succ_cons, List.take_zero, List.drop_succ_cons, List.drop_zero, List.nil_append, List.cons_append, Option.getD_some, Nat.reduceAdd, Nat.reduceLeDiff, List.append_nil, and_self, List.all_cons, List.all_nil])
  refine stk_pure (sameList_ok p.classes q.classes (by omega) (by omega)) fun v hv => ?_
  subst hv
  by_cases e4 : p.classes = q.classes
  case neg =>
    have d4 := decide_eq_false e4
    rw [d4]
    (try simp +decide (implicitDefEqProofs := false) only [go_sem, ↓stk_g, ↓stk_c, ↓reduceIte, polCells, lay, oneOr, List.take_succ_cons, List.take_zero, List.drop_succ_cons, List.drop_zero, List.nil_append, List.cons_append, Option.getD_some, Nat.reduceAdd, Nat.reduceLeDiff, List.append_nil, and_self, List.all_cons, List.all_nil])
    refine aret_pure (.inr rfl) ?_; simp +decide only [retOf, tget, if_true, if_false, ↓reduceIte, List.map_cons, List.map_nil]
    exact no fun h => e4 (by rw [h])
  have d4 := decide_eq_true e4
  rw [d4]
  (try simp +decide (implicitDefEqProofs := false) only [go_sem, ↓stk_g, ↓stk_c, ↓reduceIte, polCells, lay, oneOr, List.take_succ_cons, List.take_zero, List.drop_succ_cons, List.drop_zero, List.nil_append, List.cons_append, Option.getD_some, Nat.reduceAdd, Nat.reduceLeDiff, List.append_nil, and_self, List.all_cons, List.all_nil])
  refine stk_pure (sameList_ok p.props q.props (by omega) (by omega)) fun v hv => ?_
  subst hv
  by_cases e5 : p.props = q.props
  case neg =>
    have d5 := decide_eq_false e5
    rw [d5]
    (try simp +decide (implicitDefEqProofs := false) only [go_sem, ↓stk_g, ↓stk_c, ↓reduceIte, polCells, lay, oneOr, List.take_succ_cons, List.take_zero, List.drop_succ_cons, List.drop_zero, List.nil_append, List.cons_append, Option.getD_some, Nat.reduceAdd, Nat.reduceLeDiff, List.append_nil, and_self, List.all_cons, List.all_nil])
    refine aret_pure (.inr rfl) ?_; simp +decide only [retOf, tget, if_true, if_false, ↓reduceIte, List.map_cons, List.map_nil]
    exact no fun h => e5 (by rw [h])
  have d5 := decide_eq_true e5
  rw [d5]
  by_cases e6 : p.depth = q.depth
  case neg =>
    have d6 := decide_eq_false e6
    (try simp +decide (implicitDefEqProofs := false) only [go_sem, ↓stk_g, ↓stk_c, ↓reduceIte, polCells, d6, lay, oneOr, List.take_succ_cons, List.take_zero, List.drop_succ_cons, List.drop_zero, List.nil_append, List.cons_append, Option.getD_some, Nat.reduceAdd, Nat.reduceLeDiff, List.append_nil, and_self, List.all_cons, List.all_nil])
    refine aret_pure (.inr rfl) ?_; simp +decide only [retOf, tget, if_true, if_false, ↓reduceIte, List.map_cons, List.map_nil]
    exact no fun h => e6 (by rw [h])
  have d6 := decide_eq_true e6
  by_cases e7 : p.nodes = q.nodes
  case neg =>
    have d7 := decide_eq_false e7
    (try simp +decide (implicitDefEqProofs := false) only [go_sem, ↓stk_g, ↓stk_c, ↓reduceIte, polCells, d6, d7, lay, oneOr, List.take_succ_cons, List.take_zero, List.drop_succ_cons, List.drop_zero, List.nil_append, List.cons_append, Option.getD_some, Nat.reduceAdd, Nat.reduceLeDiff, List.append_nil, and_self, List.all_cons, List.all_nil])
    refine aret_pure (.inr rfl) ?_; simp +decide only [retOf, tget, if_true, if_false, ↓reduceIte, List.map_cons, List.map_nil]
    exact no fun h => e7 (by rw [h])
  have d7 := decide_eq_true e7
  by_cases e8 : p.bytes = q.bytes
  case neg =>
    have d8 := decide_eq_false e8
    (try simp +decide (implicitDefEqProofs := false) only [go_sem, ↓stk_g, ↓stk_c, ↓reduceIte, polCells, d6, d7, d8, lay, oneOr, List.take_succ_cons, List.take_zero, List.drop_succ_cons, List.drop_zero, List.nil_append, List.cons_append, Option.getD_some, Nat.reduceAdd, Nat.reduceLeDiff, List.append_nil, and_self, List.all_cons, List.all_nil])
    refine aret_pure (.inr rfl) ?_; simp +decide only [retOf, tget, if_true, if_false, ↓reduceIte, List.map_cons, List.map_nil]
    exact no fun h => e8 (by rw [h])
  have d8 := decide_eq_true e8
  (try simp +decide (implicitDefEqProofs := false) only [go_sem, ↓stk_g, ↓stk_c, ↓reduceIte, polCells, d6, d7, d8, lay, oneOr, List.take_succ_cons, List.take_zero, List.drop_succ_cons, List.drop_zero, List.nil_append, List.cons_append, Option.getD_some, Nat.reduceAdd, Nat.reduceLeDiff, List.append_nil, and_self, List.all_cons, List.all_nil])
  refine aret_pure (.inr rfl) ?_; simp +decide only [retOf, tget, if_true, if_false, ↓reduceIte, List.map_cons, List.map_nil]
  rw [decide_eq_true (Pol.ext2 ⟨e0, e1, e2, e3, e4, e5, e6, e7, e8⟩)]
end Go.Proofs.YtcplmaffccfbdaaGreatDoor.M
