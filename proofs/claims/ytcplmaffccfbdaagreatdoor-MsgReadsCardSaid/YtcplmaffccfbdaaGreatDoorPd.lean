/-
  Which policies may be; what one lets; whether one is stricter than another: walked.
-/
import Derived.Test.YtcplmaffccfbdaaGreatDoorPc
namespace Go.Proofs.YtcplmaffccfbdaaGreatDoor.M
open Go.RowKit
attribute [local go_sem] stk_nil stk_skip stk_ops stk_seq stk_block stk_scope stk_exit stk_ret stk_code_exit stk_code_ret stk_ops_exit stk_ops_ret stk_endb stk_endb_exit stk_endb_ret stk_endl stk_endl_exit stk_endl_ret stk_ops_nil stk_q stk_niq niqA flip srcOf stk_bsl side val bside bval uside uval cside cval bndS bndV intA isInt lside lval fside fval faside faval iside ival sxside sxval sizeA slside slval llside llval lenside lenval lenA tupA mmside mmval nkside boolA isBool ev_t ev_c tget put_s put_n lkside lkval menval stk_mk Option.isSome_some isMapA mapA keyA FZ_rfl FZ_any retOf true_and and_true if_true if_false decide_true decide_false Bool.not_true Bool.not_false Nat.zero_add List.map_cons List.map_nil Int.toNat_natCast strRows_len intRows_len List.getD_cons_zero List.getD_cons_succ List.length_cons List.length_nil List.forall_mem_cons List.not_mem_nil false_implies implies_true Int.ofNat_zero Int.natCast_add Int.natCast_one Int.ofNat_one Int.natCast_zero isB isU Bool.false_eq_true beq_self_eq_true Bool.false_beq Bool.true_beq Int.natCast_nonneg undef strRows_take strRows_drop Int.toNat_zero List.drop_zero Bool.and_true oneOr List.all_cons List.all_nil AVal.one Value.oneCell' Bool.true_and List.take_length stk_st' stside stH hp_self hp_hp isnside isnval
set_option linter.unusedVariables false
set_option linter.unusedSimpArgs false
theorem steq3 (a b c x y z : Int) : steq [0, 0, 0] (.agg [.v (.int .i64 a), .v (.int .i64 b), .v (.int .i64 c)]) (.agg [.v (.int .i64 x), .v (.int .i64 y), .v (.int .i64 z)]) = some (decide (a = x) && (decide (b = y) && decide (c = z))) := by simp [steq, isAggA, flatEq, flat1, aggA]
def fitI (most n : Int) : Int := min (max n 1) most
def capsP (p : Pol) : Bool := decide (p.depth = fitI 64 p.depth) && (decide (p.nodes = fitI 2000 p.nodes) && decide (p.bytes = fitI 16384 p.bytes))
/-- What is asked of a policy's lists ahead of all walks: they are not too long. -/
structure Fits (p : Pol) : Prop where
  elems : p.elems.length ≤ 20000
  attrs : p.attrs.length ≤ 20000
  schemes : p.schemes.length ≤ 20000
  classes : p.classes.length ≤ 20000
  props : p.props.length ≤ 20000
  all : ∀ l, l ∈ [p.elems, p.attrs, p.schemes, p.classes, p.props] → ∀ s ∈ l, s.size ≤ 20000
theorem cut_le (s : Str) : (cutT s dotS).2.1.size ≤ s.size := by
  have h : ∀ (a b : List UInt8), (Lib.cut a b).2.1.length ≤ a.length := fun a b => by
    unfold Lib.cut
    split
    · simp
    · simp
  have := h s.data.toList dotS.data.toList
  exact this
theorem FZ.cellsR {H H' : AHeap} {b E : Nat} {cs : List AVal} (hb : H b = some (.cells E cs)) (hf : H' b = none) : FZ H H' (.v (.pointer (some ⟨b, 0, none⟩))) (.pl cs) := .cells hb hf rfl fun _ _ _ => .refl _
theorem FZ.cell1 {H H' : AHeap} {b E : Nat} {x y : AVal} (hb : H b = some (.cells E [x])) (hf : H' b = none) (h : FZ H H' x y) : FZ H H' (.v (.pointer (some ⟨b, 0, none⟩))) (.pl [y]) := .cells hb hf rfl fun j hj hj' => by
  obtain rfl : j = 0 := by simp at hj; omega
  exact h
theorem FZ.fn1 {H H' : AHeap} {f : FuncId} {x y : AVal} (h : FZ H H' x y) : FZ H H' (.fn f [x]) (.fn f [y]) := .fn rfl fun j hj hj' => by
  obtain rfl : j = 0 := by simp at hj; omega
  exact h
def liP (elems : List Str) : Bool := !decide ((⟨#[108, 105]⟩ : ByteArray) ∈ elems) || (decide ((⟨#[117, 108]⟩ : ByteArray) ∈ elems) && decide ((⟨#[111, 108]⟩ : ByteArray) ∈ elems))
def elP (s : Str) : Bool := wordP s && !neverP s
def rightP (p : Pol) : Bool :=
  !(decide (p.epoch < 1) || (decide (1000000 < p.epoch) || !capsP p)) &&
  (listP p.elems elP && (listP p.attrs (attrsP p.elems) && (listP p.schemes schemeP && (listP p.classes wordP && (listP p.props wordP && liP p.elems)))))
def c_Right : AFn := ⟨1, 83, [2],
  .seq (.ops [⟨(some 1), none, .e (.box 25 (.tmp 0))⟩,
      ⟨(some 2), none, .q (.mv (.const (.bool false)))⟩])
  (.seq (.ops [⟨(some 9), none, .q (.fad 6 1 (.tmp 1))⟩,
      ⟨(some 10), none, .q (.ld false 1 (.tmp 9))⟩,
      ⟨(some 11), none, .q (.fad 7 1 (.tmp 1))⟩,
      ⟨(some 12), none, .q (.ld false 1 (.tmp 11))⟩,
      ⟨(some 13), none, .q (.fad 8 1 (.tmp 1))⟩,
      ⟨(some 14), none, .q (.ld false 1 (.tmp 13))⟩,
      ⟨(some 15), none, .q (.bld [(.int .i64 0), (.int .i64 0), (.int .i64 0)] [(0, 1, (.tmp 10)), (1, 1, (.tmp 12)), (2, 1, (.tmp 14))])⟩,
      ⟨(some 3), none, .e (.alloc 72 [(.int .i64 0), (.int .i64 0), (.int .i64 0)])⟩,
      ⟨none, none, .e (.st 3 (.tmp 3) (.tmp 15))⟩])
  (.seq (.ops [⟨(some 16), none, .q (.fad 6 1 (.tmp 1))⟩,
      ⟨(some 17), none, .q (.ld false 1 (.tmp 16))⟩,
      ⟨(some 18), none, .q (.mm true (.tmp 17) (.const (.int .i64 1)))⟩,
      ⟨(some 19), none, .q (.mm false (.tmp 18) (.const (.int .i64 64)))⟩,
      ⟨(some 20), none, .q (.fad 7 1 (.tmp 1))⟩,
      ⟨(some 21), none, .q (.ld false 1 (.tmp 20))⟩,
      ⟨(some 22), none, .q (.mm true (.tmp 21) (.const (.int .i64 1)))⟩,
      ⟨(some 23), none, .q (.mm false (.tmp 22) (.const (.int .i64 2000)))⟩,
      ⟨(some 24), none, .q (.fad 8 1 (.tmp 1))⟩,
      ⟨(some 25), none, .q (.ld false 1 (.tmp 24))⟩,
      ⟨(some 26), none, .q (.mm true (.tmp 25) (.const (.int .i64 1)))⟩,
      ⟨(some 27), none, .q (.mm false (.tmp 26) (.const (.int .i64 16384)))⟩,
      ⟨(some 28), none, .q (.bld [(.int .i64 0), (.int .i64 0), (.int .i64 0)] [(0, 1, (.tmp 19)), (1, 1, (.tmp 23)), (2, 1, (.tmp 27))])⟩,
      ⟨(some 4), none, .e (.alloc 72 [(.int .i64 0), (.int .i64 0), (.int .i64 0)])⟩,
      ⟨none, none, .e (.st 3 (.tmp 4) (.tmp 28))⟩])
  (.seq (.seq (.ops [⟨(some 29), none, .q (.fad 0 1 (.tmp 1))⟩,
      ⟨(some 30), none, .q (.ld false 1 (.tmp 29))⟩,
      ⟨(some 31), none, .q (.bin .lss .num (.tmp 30) (.const (.int .i64 1)))⟩,
      ⟨(some 32), none, .q (.mv (.tmp 31))⟩,
      ⟨(some 33), (some (32, false)), .q (.fad 0 1 (.tmp 1))⟩,
      ⟨(some 34), (some (32, false)), .q (.ld false 1 (.tmp 33))⟩,
      ⟨(some 35), (some (32, false)), .q (.bin .gtr .num (.tmp 34) (.const (.int .i64 1000000)))⟩,
      ⟨(some 36), none, .q (.pick (.tmp 32) (.const (.bool true)) (.tmp 35))⟩,
      ⟨(some 37), none, .q (.mv (.tmp 36))⟩,
      ⟨(some 38), (some (37, false)), .q (.ld true 3 (.tmp 3))⟩,
      ⟨(some 39), (some (37, false)), .q (.ld true 3 (.tmp 4))⟩,
      ⟨(some 40), (some (37, false)), .q (.bin .neq (.struct [0, 0, 0]) (.tmp 38) (.tmp 39))⟩,
      ⟨(some 41), none, .q (.pick (.tmp 37) (.const (.bool true)) (.tmp 40))⟩])
  (.cond (.tmp 41)
    (.seq (.ops [⟨(some 2), none, .q (.mv (.const (.bool false)))⟩])
    (.ret))
    (.skip)))
  (.seq (.ops [⟨(some 42), none, .q (.mkf 39 [(.tmp 1)])⟩,
      ⟨(some 5), none, .e (.alloc 36 [.nilFunc])⟩,
      ⟨none, none, .e (.st 1 (.tmp 5) (.tmp 42))⟩])
  (.seq (.ops [⟨(some 43), none, .q (.fad 1 1 (.tmp 1))⟩,
      ⟨(some 44), none, .q (.ld false 1 (.tmp 43))⟩,
      ⟨(some 45), none, .e (.call 41 [(.tmp 44), (.func 42)])⟩,
      ⟨(some 6), none, .q (.mv (.tmp 45))⟩])
  (.seq (.ops [⟨(some 46), none, .q (.fad 2 1 (.tmp 1))⟩,
      ⟨(some 47), none, .q (.ld false 1 (.tmp 46))⟩,
      ⟨(some 48), none, .q (.mkf 45 [(.tmp 5)])⟩,
      ⟨(some 49), none, .e (.call 41 [(.tmp 47), (.tmp 48)])⟩,
      ⟨(some 7), none, .q (.mv (.tmp 49))⟩])
  (.seq (.ops [⟨(some 50), none, .q (.fad 3 1 (.tmp 1))⟩,
      ⟨(some 51), none, .q (.ld false 1 (.tmp 50))⟩,
      ⟨(some 52), none, .e (.call 41 [(.tmp 51), (.func 48)])⟩,
      ⟨(some 8), none, .q (.mv (.tmp 52))⟩])
  (.seq (.ops [⟨(some 53), none, .q (.mv (.tmp 6))⟩,
      ⟨(some 54), none, .q (.mv (.tmp 53))⟩,
      ⟨(some 55), (some (54, true)), .q (.mv (.tmp 7))⟩,
      ⟨(some 56), none, .q (.pick (.tmp 54) (.tmp 55) (.const (.bool false)))⟩,
      ⟨(some 57), none, .q (.mv (.tmp 56))⟩,
      ⟨(some 58), (some (57, true)), .q (.mv (.tmp 8))⟩,
      ⟨(some 59), none, .q (.pick (.tmp 57) (.tmp 58) (.const (.bool false)))⟩,
      ⟨(some 60), none, .q (.mv (.tmp 59))⟩,
      ⟨(some 61), (some (60, true)), .q (.fad 4 1 (.tmp 1))⟩,
      ⟨(some 62), (some (60, true)), .q (.ld false 1 (.tmp 61))⟩,
      ⟨(some 63), (some (60, true)), .e (.call 41 [(.tmp 62), (.func 43)])⟩,
      ⟨(some 64), none, .q (.pick (.tmp 60) (.tmp 63) (.const (.bool false)))⟩,
      ⟨(some 65), none, .q (.mv (.tmp 64))⟩,
      ⟨(some 66), (some (65, true)), .q (.fad 5 1 (.tmp 1))⟩,
      ⟨(some 67), (some (65, true)), .q (.ld false 1 (.tmp 66))⟩,
      ⟨(some 68), (some (65, true)), .e (.call 41 [(.tmp 67), (.func 43)])⟩,
      ⟨(some 69), none, .q (.pick (.tmp 65) (.tmp 68) (.const (.bool false)))⟩,
      ⟨(some 70), none, .q (.mv (.tmp 69))⟩,
      ⟨(some 71), (some (70, true)), .q (.ld false 1 (.tmp 5))⟩,
      ⟨(some 72), (some (70, true)), .e (.callv (.tmp 71) [(.const (.string ⟨#[108, 105]⟩))])⟩,
      ⟨(some 73), (some (70, true)), .q (.un .not (.tmp 72))⟩,
      ⟨(some 74), (some (70, true)), .q (.mv (.tmp 73))⟩,
      ⟨(some 75), (some (74, false)), .q (.ld false 1 (.tmp 5))⟩,
      ⟨(some 76), (some (74, false)), .e (.callv (.tmp 75) [(.const (.string ⟨#[117, 108]⟩))])⟩,
      ⟨(some 77), (some (74, false)), .q (.mv (.tmp 76))⟩,
      ⟨(some 78), (some (77, true)), .q (.ld false 1 (.tmp 5))⟩,
      ⟨(some 79), (some (77, true)), .e (.callv (.tmp 78) [(.const (.string ⟨#[111, 108]⟩))])⟩,
      ⟨(some 80), (some (74, false)), .q (.pick (.tmp 77) (.tmp 79) (.const (.bool false)))⟩,
      ⟨(some 81), (some (70, true)), .q (.pick (.tmp 74) (.const (.bool true)) (.tmp 80))⟩,
      ⟨(some 82), none, .q (.pick (.tmp 70) (.tmp 81) (.const (.bool false)))⟩,
      ⟨(some 2), none, .q (.mv (.tmp 82))⟩])
  (.ret))))))))), []⟩
theorem k_Right : compF Tryz.prog 22 = some c_Right := by kernel_rfl
set_option maxHeartbeats 8000000 in
theorem right_ok {W : World} (L : Laid W) (p : Pol) (F : Fits p) : ACalls Tryz.prog W 22 [.agg (polCells p)] AHeap.none fun v _ => v = .v (.bool (rightP p)) := by
  have F1 := F.elems
  have F2 := F.attrs
  have F3 := F.schemes
  have F4 := F.classes
  have F5 := F.props
  have l1 := fun s (hs : s ∈ p.elems) => right2_ok (W := W) s (by have := F.all _ (by simp) s (hs); omega)
  have l2 := fun s (hs : s ∈ p.attrs) => right3_ok (W := W) L p s (by have := F.elems; omega) (by have := F.all _ (by simp) s (hs); omega) (by have := F.all _ (by simp) s (hs); have := cut_le s; omega)
  have l3 := fun s (hs : s ∈ p.schemes) => right4_ok (W := W) s (by have := F.all _ (by simp) s (hs); omega)
  have l4 := fun s (hs : s ∈ p.classes) => word_ok (W := W) s (by have := F.all _ (by simp) s (hs); omega)
  have l5 := fun s (hs : s ∈ p.props) => word_ok (W := W) s (by have := F.all _ (by simp) s (hs); omega)
  have hcap : capsP p = (decide (p.depth = min (max p.depth 1) 64) && (decide (p.nodes = min (max p.nodes 1) 2000) && decide (p.bytes = min (max p.bytes 1) 16384))) := rfl
  unfold rightP
  refine fn_run follows k_Right rfl ?_
  simp only [c_Right, aretC_nil, List.zipIdx_cons, List.zipIdx_nil, List.map_cons, List.map_nil, Nat.zero_add]
  (try simp +decide (implicitDefEqProofs := false) only [go_sem, ↓stk_g, ↓stk_c, ↓reduceIte])
  rw [stk_box]
  refine ⟨by rfl, fun b1 h1 => ?_⟩
  (try simp +decide (implicitDefEqProofs := false) only [go_sem, ↓stk_g, ↓stk_c, ↓reduceIte, polCells, lay, oneOr, List.take_succ_cons, List.take_zero, List.drop_succ_cons, List.drop_zero, List.nil_append, List.cons_append, Option.getD_some, Nat.reduceAdd, Nat.reduceLeDiff, List.append_nil, and_self, List.all_cons, List.all_nil])
  rw [stk_alloc]
  intro b2 h2
  have n2 := new_ne (hp_self _ _ _) h2
  have n2' := n2.symm
  (try simp +decide (implicitDefEqProofs := false) only [go_sem, ↓stk_g, ↓stk_c, ↓reduceIte, hp_ne, n2, n2', ne_eq, not_false_eq_true, lay, oneOr, List.take_succ_cons, List.take_zero, List.drop_succ_cons, List.drop_zero, List.nil_append, List.cons_append, Option.getD_some, Nat.reduceAdd, Nat.reduceLeDiff, List.append_nil, and_self, List.all_cons, List.all_nil])
  rw [stk_alloc]
  intro b3 h3
  have n3 := new_ne (hp_self _ _ _) h3
  have n3' := n3.symm
  have m3 := new_ne (g := b1) ((hp_ne _ _ n2').trans (hp_self _ _ _)) h3
  have m3' := m3.symm
  by_cases e1 : p.epoch < 1
  · rw [decide_eq_true e1]
    (try simp +decide (implicitDefEqProofs := false) only [go_sem, ↓stk_g, ↓stk_c, ↓reduceIte, hp_ne, n2, n2', n3, n3', m3, m3', e1, ne_eq, not_false_eq_true, lay, oneOr, List.take_succ_cons, List.take_zero, List.drop_succ_cons, List.drop_zero, List.nil_append, List.cons_append, Option.getD_some, Nat.reduceAdd, Nat.reduceLeDiff, List.append_nil, and_self, List.all_cons, List.all_nil])
    refine aret_pure (.inr rfl) ?_; simp +decide only [retOf, tget, if_true, if_false, ↓reduceIte, List.map_cons, List.map_nil]
    try rfl
  by_cases e2 : 1000000 < p.epoch
  · rw [decide_eq_true e2]
    (try simp +decide (implicitDefEqProofs := false) only [go_sem, ↓stk_g, ↓stk_c, ↓reduceIte, hp_ne, n2, n2', n3, n3', m3, m3', e1, e2, ne_eq, not_false_eq_true, lay, oneOr, List.take_succ_cons, List.take_zero, List.drop_succ_cons, List.drop_zero, List.nil_append, List.cons_append, Option.getD_some, Nat.reduceAdd, Nat.reduceLeDiff, List.append_nil, and_self, List.all_cons, List.all_nil])
    refine aret_pure (.inr rfl) ?_; simp +decide only [retOf, tget, if_true, if_false, ↓reduceIte, List.map_cons, List.map_nil]
    try simp
  cases hc : capsP p
  · rw [hcap] at hc
    (try simp +decide (implicitDefEqProofs := false) only [go_sem, ↓stk_g, ↓stk_c, ↓reduceIte, hp_ne, n2, n2', n3, n3', m3, m3', e1, e2, hc, steq3, Option.getD_some, ne_eq, not_false_eq_true, lay, oneOr, List.take_succ_cons, List.take_zero, List.drop_succ_cons, List.drop_zero, List.nil_append, List.cons_append, Option.getD_some, Nat.reduceAdd, Nat.reduceLeDiff, List.append_nil, and_self, List.all_cons, List.all_nil])
    refine aret_pure (.inr rfl) ?_; simp +decide only [retOf, tget, if_true, if_false, ↓reduceIte, List.map_cons, List.map_nil]
    try simp
  rw [decide_eq_false e1, decide_eq_false e2]
  rw [hcap] at hc
  (try simp +decide (implicitDefEqProofs := false) only [go_sem, ↓stk_g, ↓stk_c, ↓reduceIte, hp_ne, n2, n2', n3, n3', m3, m3', e1, e2, hc, steq3, Option.getD_some, ne_eq, not_false_eq_true, lay, oneOr, List.take_succ_cons, List.take_zero, List.drop_succ_cons, List.drop_zero, List.nil_append, List.cons_append, Option.getD_some, Nat.reduceAdd, Nat.reduceLeDiff, List.append_nil, and_self, List.all_cons, List.all_nil])
  rw [stk_alloc]
  intro b4 h4
  have n4 := new_ne (hp_self _ _ _) h4
  have n4' := n4.symm
  have m4 := new_ne (g := b1) ((hp_ne _ _ m3').trans ((hp_ne _ _ n2').trans (hp_self _ _ _))) h4
  have m4' := m4.symm
  (try simp +decide (implicitDefEqProofs := false) only [go_sem, ↓stk_g, ↓stk_c, ↓reduceIte, hp_ne, n2, n2', n3, n3', m3, m3', n4, n4', m4, m4', ne_eq, not_false_eq_true, lay, oneOr, List.take_succ_cons, List.take_zero, List.drop_succ_cons, List.drop_zero, List.nil_append, List.cons_append, Option.getD_some, Nat.reduceAdd, Nat.reduceLeDiff, List.append_nil, and_self, List.all_cons, List.all_nil])
  refine stk_pureW ⟨[(44, .sl false 1 (strRows p.elems)), (5, .pl [.fn 39 [.pl (polCells p)]]), (1, .pl (polCells p))], AHeap.none⟩ (Weak.list _ (Sub.none _) ?_) (list_ok p.elems 42 [] elP (by omega) (by kernel_rfl) l1) fun v hv => ?_
  · (try simp +decide (implicitDefEqProofs := false) only [go_sem, ↓stk_g, ↓stk_c, ↓reduceIte])
    exact ⟨FZ.cell1 (hp_self _ _ _) rfl (FZ.fn1 (FZ.cellsR ((hp_ne _ _ m4').trans ((hp_ne _ _ m3').trans ((hp_ne _ _ n2').trans (hp_self _ _ _)))) rfl)), FZ.cellsR ((hp_ne _ _ m4').trans ((hp_ne _ _ m3').trans ((hp_ne _ _ n2').trans (hp_self _ _ _)))) rfl⟩
  subst hv
  (try simp +decide (implicitDefEqProofs := false) only [go_sem, ↓stk_g, ↓stk_c, ↓reduceIte, polCells, lay, oneOr, List.take_succ_cons, List.take_zero, List.drop_succ_cons, List.drop_zero, List.nil_append, List.cons_append, Option.getD_some, Nat.reduceAdd, Nat.reduceLeDiff, List.append_nil, and_self, List.all_cons, List.all_nil])
  refine stk_pure (list_ok p.attrs 45 [.pl [.fn 39 [.pl (polCells p)]]] (attrsP p.elems) (by omega) (by kernel_rfl) l2) fun v hv => ?_
  subst hv
  (try simp +decide (implicitDefEqProofs := false) only [go_sem, ↓stk_g, ↓stk_c, ↓reduceIte, polCells, lay, oneOr, List.take_succ_cons, List.take_zero, List.drop_succ_cons, List.drop_zero, List.nil_append, List.cons_append, Option.getD_some, Nat.reduceAdd, Nat.reduceLeDiff, List.append_nil, and_self, List.all_cons, List.all_nil])
  refine stk_pure (list_ok p.schemes 48 [] schemeP (by omega) (by kernel_rfl) l3) fun v hv => ?_
  subst hv
  have l6 := fun s => right1_ok (W := W) p s (by omega)
  clear hc n2 n2' n3 n3' m3 m3' n4 n4' m4 m4' h1 h2 h3 h4 hcap
  generalize listP p.elems elP = x1
  generalize listP p.attrs (attrsP p.elems) = x2
  generalize listP p.schemes schemeP = x3
  cases x1
  · (try simp +decide (implicitDefEqProofs := false) only [go_sem, ↓stk_g, ↓stk_c, ↓reduceIte])
    refine aret_pure (.inr rfl) ?_; simp +decide only [retOf, tget, if_true, if_false, ↓reduceIte, List.map_cons, List.map_nil]
    try rfl
  cases x2
  · (try simp +decide (implicitDefEqProofs := false) only [go_sem, ↓stk_g, ↓stk_c, ↓reduceIte])
    refine aret_pure (.inr rfl) ?_; simp +decide only [retOf, tget, if_true, if_false, ↓reduceIte, List.map_cons, List.map_nil]
    try rfl
  cases x3
  · (try simp +decide (implicitDefEqProofs := false) only [go_sem, ↓stk_g, ↓stk_c, ↓reduceIte])
    refine aret_pure (.inr rfl) ?_; simp +decide only [retOf, tget, if_true, if_false, ↓reduceIte, List.map_cons, List.map_nil]
    try rfl
  (try simp +decide (implicitDefEqProofs := false) only [go_sem, ↓stk_g, ↓stk_c, ↓reduceIte, lay, oneOr, List.take_succ_cons, List.take_zero, List.drop_succ_cons, List.drop_zero, List.nil_append, List.cons_append, Option.getD_some, Nat.reduceAdd, Nat.reduceLeDiff, List.append_nil, and_self, List.all_cons, List.all_nil])
  refine stk_pure (list_ok p.classes 43 [] wordP (by omega) (by kernel_rfl) l4) fun v hv => ?_
  subst hv
  generalize listP p.classes wordP = x4
  cases x4
  · (try simp +decide (implicitDefEqProofs := false) only [go_sem, ↓stk_g, ↓stk_c, ↓reduceIte])
    refine aret_pure (.inr rfl) ?_; simp +decide only [retOf, tget, if_true, if_false, ↓reduceIte, List.map_cons, List.map_nil]
    try rfl
  (try simp +decide (implicitDefEqProofs := false) only [go_sem, ↓stk_g, ↓stk_c, ↓reduceIte, lay, oneOr, List.take_succ_cons, List.take_zero, List.drop_succ_cons, List.drop_zero, List.nil_append, List.cons_append, Option.getD_some, Nat.reduceAdd, Nat.reduceLeDiff, List.append_nil, and_self, List.all_cons, List.all_nil])
  refine stk_pure (list_ok p.props 43 [] wordP (by omega) (by kernel_rfl) l5) fun v hv => ?_
  subst hv
  generalize listP p.props wordP = x5
  cases x5
  · (try simp +decide (implicitDefEqProofs := false) only [go_sem, ↓stk_g, ↓stk_c, ↓reduceIte])
    refine aret_pure (.inr rfl) ?_; simp +decide only [retOf, tget, if_true, if_false, ↓reduceIte, List.map_cons, List.map_nil]
    try rfl
  (try simp +decide (implicitDefEqProofs := false) only [go_sem, ↓stk_g, ↓stk_c, ↓reduceIte, lay, oneOr, List.take_succ_cons, List.take_zero, List.drop_succ_cons, List.drop_zero, List.nil_append, List.cons_append, Option.getD_some, Nat.reduceAdd, Nat.reduceLeDiff, List.append_nil, and_self, List.all_cons, List.all_nil])
  refine stk_callv (f := 39) (caps := [.pl (polCells p)]) (by rfl) (by kernel_rfl) (l6 (⟨#[108, 105]⟩ : ByteArray)) fun v hv => ?_
  subst hv
  unfold liP
  cases decide ((⟨#[108, 105]⟩ : ByteArray) ∈ p.elems)
  · (try simp +decide (implicitDefEqProofs := false) only [go_sem, ↓stk_g, ↓stk_c, ↓reduceIte])
    refine aret_pure (.inr rfl) ?_; simp +decide only [retOf, tget, if_true, if_false, ↓reduceIte, List.map_cons, List.map_nil]
    try rfl
  (try simp +decide (implicitDefEqProofs := false) only [go_sem, ↓stk_g, ↓stk_c, ↓reduceIte, lay, oneOr, List.take_succ_cons, List.take_zero, List.drop_succ_cons, List.drop_zero, List.nil_append, List.cons_append, Option.getD_some, Nat.reduceAdd, Nat.reduceLeDiff, List.append_nil, and_self, List.all_cons, List.all_nil])
  refine stk_callv (f := 39) (caps := [.pl (polCells p)]) (by rfl) (by kernel_rfl) (l6 (⟨#[117, 108]⟩ : ByteArray)) fun v hv => ?_
  subst hv
  cases decide ((⟨#[117, 108]⟩ : ByteArray) ∈ p.elems)
  · (try simp +decide (implicitDefEqProofs := false) only [go_sem, ↓stk_g, ↓stk_c, ↓reduceIte])
    refine aret_pure (.inr rfl) ?_; simp +decide only [retOf, tget, if_true, if_false, ↓reduceIte, List.map_cons, List.map_nil]
    try rfl
  (try simp +decide (implicitDefEqProofs := false) only [go_sem, ↓stk_g, ↓stk_c, ↓reduceIte, lay, oneOr, List.take_succ_cons, List.take_zero, List.drop_succ_cons, List.drop_zero, List.nil_append, List.cons_append, Option.getD_some, Nat.reduceAdd, Nat.reduceLeDiff, List.append_nil, and_self, List.all_cons, List.all_nil])
  refine stk_callv (f := 39) (caps := [.pl (polCells p)]) (by rfl) (by kernel_rfl) (l6 (⟨#[111, 108]⟩ : ByteArray)) fun v hv => ?_
  subst hv
  cases decide ((⟨#[111, 108]⟩ : ByteArray) ∈ p.elems)
  · (try simp +decide (implicitDefEqProofs := false) only [go_sem, ↓stk_g, ↓stk_c, ↓reduceIte])
    refine aret_pure (.inr rfl) ?_; simp +decide only [retOf, tget, if_true, if_false, ↓reduceIte, List.map_cons, List.map_nil]
    try rfl
  (try simp +decide (implicitDefEqProofs := false) only [go_sem, ↓stk_g, ↓stk_c, ↓reduceIte])
  refine aret_pure (.inr rfl) ?_; simp +decide only [retOf, tget, if_true, if_false, ↓reduceIte, List.map_cons, List.map_nil]
  try rfl
end Go.Proofs.YtcplmaffccfbdaaGreatDoor.M
