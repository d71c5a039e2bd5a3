/-
 The document's own sameList and Same of layer 8: they tell whether two policies are one, walked.
-/
import Derived.Test.YtfaodacmdlnabaaGreatDoorPd
namespace Go.Proofs.YtfaodacmdlnabaaGreatDoor.M
open Go.RowKit
set_option linter.unusedVariables false
set_option linter.unusedSimpArgs false
def c_sameList : AFn := ⟨2, 26, [4],
 .seq (.ops [oq 4 (.mv (.const (.bool false)))])
 (.seq (.seq (.ops [oq 6 (.mv (.tmp 0)),
   oq 7 (.len false (.tmp 6)),
   oq 8 (.mv (.tmp 1)),
   oq 9 (.len false (.tmp 8)),
   oq 10 (.bin .neq .num (.tmp 7) (.tmp 9))])
 (.cond (.tmp 10)
  (.seq (.ops [oq 4 (.mv (.const (.bool false)))])
  (.ret))
  (.skip)))
 (.seq (.seq (.ops [oq 5 (.mv (.const (.int .i64 0)))])
 (.block 0 (.loop (.seq (.seq (.ops [oq 11 (.mv (.tmp 5)),
     oq 12 (.mv (.tmp 0)),
     oq 13 (.len false (.tmp 12)),
     oq 14 (.bin .lss .num (.tmp 11) (.tmp 13))])
   (.cond (.tmp 14)
    (.skip)
    (.exit 0)))
   (.seq (.block 1 (.seq (.ops [oq 17 (.mv (.tmp 0)),
      oq 18 (.mv (.tmp 5)),
      oq 19 (.ixa 1 (.tmp 17) (.tmp 18)),
      oq 20 (.ld false 1 (.tmp 19)),
      oq 21 (.mv (.tmp 1)),
      oq 22 (.mv (.tmp 5)),
      oq 23 (.ixa 1 (.tmp 21) (.tmp 22)),
      oq 24 (.ld false 1 (.tmp 23)),
      oq 25 (.bin .neq .num (.tmp 20) (.tmp 24))])
    (.cond (.tmp 25)
     (.seq (.ops [oq 4 (.mv (.const (.bool false)))])
     (.ret))
     (.skip))))
   (.ops [oq 15 (.mv (.tmp 5)),
     oq 16 (.bin .add .num (.tmp 15) (.const (.int .i64 1))),
     oq 5 (.mv (.tmp 16))]))))))
 (.seq (.ops [oq 4 (.mv (.const (.bool true)))])
 (.ret)))), []⟩
theorem k_sameList : compF Tryz.prog 71 = some c_sameList := by kernel_rfl
set_option maxHeartbeats 2000000 in
theorem sameList_ok {W : World} {f g : Bool} (a b : List Str) (hla : a.length ≤ 1000000000) (hlb : b.length ≤ 1000000000) : ACalls Tryz.prog W 71 [.sl f 1 (strRows a), .sl g 1 (strRows b)] AHeap.none fun v _ => v = .v (.bool (decide (a = b))) := by
 refine fn_run follows k_sameList rfl ?_
 simp only [oq, og, oe, oh, on, c_sameList, aretC_nil, List.zipIdx_cons, List.zipIdx_nil, List.map_cons, List.map_nil, Nat.zero_add]
 by_cases hl : a.length = b.length
 case neg =>
  have g0 : decide ((a.length : Int) ≠ (b.length : Int)) = true := decide_eq_true (by omega)
  (try simp +decide -implicitDefEqProofs only [go_sem, g0])
  refine aret_pure (.inr rfl) ?_; simp +decide only [retOf, tget, if_true, if_false, ↓reduceIte, List.map_cons, List.map_nil]
  rw [decide_eq_false (fun e => hl (by rw [e]))]
 have g0 : decide ((a.length : Int) ≠ (b.length : Int)) = false := decide_eq_false (by omega)
 (try simp +decide -implicitDefEqProofs only [go_sem, g0])
 refine stk_up (α := Unit) a.length (fun i _ => ⟨[(5, .v (.int .i64 i)), (0, .sl f 1 (strRows a)), (1, .sl g 1 (strRows b))], AHeap.none⟩) (fun i _ => ∀ j, j < i → a.getD j ByteArray.empty = b.getD j ByteArray.empty) () (Weak.list _ (Sub.refl _) ?_) (fun j h => by omega) ?_
 ·(try simp +decide -implicitDefEqProofs only [go_sem])
  first | done | exact FZ.refl _ | exact ⟨FZ.refl _, FZ.refl _⟩
 rintro i ⟨⟩ hi hJ
 by_cases hlt : i < a.length
 ·have g1 : (i : Int) < (a.length : Int) := by omega
  have hlt2 : i < b.length := by omega
  have g3 : (i : Int) < (b.length : Int) := by omega
  have hw := wrap_in (n := (i : Int) + 1) (by omega) (by omega)
  have hg := strRows_get hlt
  have hg2 := strRows_get hlt2
  by_cases hs : a.getD i ByteArray.empty = b.getD i ByteArray.empty
  ·have g2 : decide (a.getD i ByteArray.empty ≠ b.getD i ByteArray.empty) = false := decide_eq_false (fun h => h hs)
   (try simp +decide -implicitDefEqProofs only [go_sem, g1, g3, hlt, hlt2, hg, hg2, g2, hw])
   have hJ2 : ∀ j, j < i + 1 → a.getD j ByteArray.empty = b.getD j ByteArray.empty := fun j hj => by
    by_cases e : j = i
    ·rw [e]; exact hs
    ·exact hJ j (by omega)
   first | exact ⟨by omega, (), Weak.list _ (Sub.refl _) (by (try simp +decide -implicitDefEqProofs only [go_sem])), hJ2⟩ | exact ⟨(), Weak.list _ (Sub.refl _) (by (try simp +decide -implicitDefEqProofs only [go_sem])), hJ2⟩
  ·have g2 : decide (a.getD i ByteArray.empty ≠ b.getD i ByteArray.empty) = true := decide_eq_true hs
   (try simp +decide -implicitDefEqProofs only [go_sem, g1, g3, hlt, hlt2, hg, hg2, g2])
   refine aret_pure (.inr rfl) ?_; simp +decide only [retOf, tget, if_true, if_false, ↓reduceIte, List.map_cons, List.map_nil]
   rw [decide_eq_false (fun e => hs (by rw [e]))]
 ·have g1 : ¬ (i : Int) < (a.length : Int) := by omega
  (try simp +decide -implicitDefEqProofs only [go_sem, g1])
  refine aret_pure (.inr rfl) ?_; simp +decide only [retOf, tget, if_true, if_false, ↓reduceIte, List.map_cons, List.map_nil]
  have : a = b := List.ext_getElem hl fun j h1 h2 => by
   have := hJ j (by omega)
   simpa [h1, h2] using this
  rw [decide_eq_true this]
theorem Pol.ext2 {p q : Pol} (h : p.epoch = q.epoch ∧ p.elems = q.elems ∧ p.attrs = q.attrs ∧ p.schemes = q.schemes ∧ p.classes = q.classes ∧ p.props = q.props ∧ p.depth = q.depth ∧ p.nodes = q.nodes ∧ p.bytes = q.bytes) : p = q := by
 obtain ⟨a1, a2, a3, a4, a5, a6, a7, a8, a9⟩ := p
 obtain ⟨b1, b2, b3, b4, b5, b6, b7, b8, b9⟩ := q
 obtain ⟨h1, h2, h3, h4, h5, h6, h7, h8, h9⟩ := h
 subst h1; subst h2; subst h3; subst h4; subst h5; subst h6; subst h7; subst h8; subst h9
 rfl
/-- A policy's lists are not too long to count. -/
structure Lens9 (p : Pol) : Prop where
 elems : p.elems.length ≤ 1000000000
 attrs : p.attrs.length ≤ 1000000000
 schemes : p.schemes.length ≤ 1000000000
 classes : p.classes.length ≤ 1000000000
 props : p.props.length ≤ 1000000000
instance : DecidableEq Pol := fun p q => decidable_of_iff (p.epoch = q.epoch ∧ p.elems = q.elems ∧ p.attrs = q.attrs ∧ p.schemes = q.schemes ∧ p.classes = q.classes ∧ p.props = q.props ∧ p.depth = q.depth ∧ p.nodes = q.nodes ∧ p.bytes = q.bytes) ⟨Pol.ext2, fun h => by subst h; simp⟩
def c_Same : AFn := ⟨2, 66, [4],
 .seq (.ops [oe 2 (.box 36 (.tmp 0)),
   oe 3 (.box 36 (.tmp 1)),
   oq 4 (.mv (.const (.bool false)))])
 (.seq (.ops [oq 5 (.fad 0 1 (.tmp 2)),
   oq 6 (.ld false 1 (.tmp 5)),
   oq 7 (.fad 0 1 (.tmp 3)),
   oq 8 (.ld false 1 (.tmp 7)),
   oq 9 (.bin .eql .num (.tmp 6) (.tmp 8)),
   oq 10 (.mv (.tmp 9)),
   og 11 10 true (.fad 1 1 (.tmp 2)),
   og 12 10 true (.ld false 1 (.tmp 11)),
   og 13 10 true (.fad 1 1 (.tmp 3)),
   og 14 10 true (.ld false 1 (.tmp 13)),
   oh 15 10 true (.call 71 [(.tmp 12), (.tmp 14)]),
   oq 16 (.pick (.tmp 10) (.tmp 15) (.const (.bool false))),
   oq 17 (.mv (.tmp 16)),
   og 18 17 true (.fad 2 1 (.tmp 2)),
   og 19 17 true (.ld false 1 (.tmp 18)),
   og 20 17 true (.fad 2 1 (.tmp 3)),
   og 21 17 true (.ld false 1 (.tmp 20)),
   oh 22 17 true (.call 71 [(.tmp 19), (.tmp 21)]),
   oq 23 (.pick (.tmp 17) (.tmp 22) (.const (.bool false))),
   oq 24 (.mv (.tmp 23)),
   og 25 24 true (.fad 3 1 (.tmp 2)),
   og 26 24 true (.ld false 1 (.tmp 25)),
   og 27 24 true (.fad 3 1 (.tmp 3)),
   og 28 24 true (.ld false 1 (.tmp 27)),
   oh 29 24 true (.call 71 [(.tmp 26), (.tmp 28)]),
   oq 30 (.pick (.tmp 24) (.tmp 29) (.const (.bool false))),
   oq 31 (.mv (.tmp 30)),
   og 32 31 true (.fad 4 1 (.tmp 2)),
   og 33 31 true (.ld false 1 (.tmp 32)),
   og 34 31 true (.fad 4 1 (.tmp 3)),
   og 35 31 true (.ld false 1 (.tmp 34)),
   oh 36 31 true (.call 71 [(.tmp 33), (.tmp 35)]),
   oq 37 (.pick (.tmp 31) (.tmp 36) (.const (.bool false))),
   oq 38 (.mv (.tmp 37)),
   og 39 38 true (.fad 5 1 (.tmp 2)),
   og 40 38 true (.ld false 1 (.tmp 39)),
   og 41 38 true (.fad 5 1 (.tmp 3)),
   og 42 38 true (.ld false 1 (.tmp 41)),
   oh 43 38 true (.call 71 [(.tmp 40), (.tmp 42)]),
   oq 44 (.pick (.tmp 38) (.tmp 43) (.const (.bool false))),
   oq 45 (.mv (.tmp 44)),
   og 46 45 true (.fad 6 1 (.tmp 2)),
   og 47 45 true (.ld false 1 (.tmp 46)),
   og 48 45 true (.fad 6 1 (.tmp 3)),
   og 49 45 true (.ld false 1 (.tmp 48)),
   og 50 45 true (.bin .eql .num (.tmp 47) (.tmp 49)),
   oq 51 (.pick (.tmp 45) (.tmp 50) (.const (.bool false))),
   oq 52 (.mv (.tmp 51)),
   og 53 52 true (.fad 7 1 (.tmp 2)),
   og 54 52 true (.ld false 1 (.tmp 53)),
   og 55 52 true (.fad 7 1 (.tmp 3)),
   og 56 52 true (.ld false 1 (.tmp 55)),
   og 57 52 true (.bin .eql .num (.tmp 54) (.tmp 56)),
   oq 58 (.pick (.tmp 52) (.tmp 57) (.const (.bool false))),
   oq 59 (.mv (.tmp 58)),
   og 60 59 true (.fad 8 1 (.tmp 2)),
   og 61 59 true (.ld false 1 (.tmp 60)),
   og 62 59 true (.fad 8 1 (.tmp 3)),
   og 63 59 true (.ld false 1 (.tmp 62)),
   og 64 59 true (.bin .eql .num (.tmp 61) (.tmp 63)),
   oq 65 (.pick (.tmp 59) (.tmp 64) (.const (.bool false))),
   oq 4 (.mv (.tmp 65))])
 (.ret)), []⟩
theorem k_Same : compF Tryz.prog 36 = some c_Same := by kernel_rfl
set_option maxHeartbeats 8000000 in
theorem psame_ok {W : World} (p q : Pol) (F : Lens9 p) (G : Lens9 q) : ACalls Tryz.prog W 36 [.agg (polCells p), .agg (polCells q)] AHeap.none fun v _ => v = .v (.bool (decide (p = q))) := by
 have F1 := F.elems; have F2 := F.attrs; have F3 := F.schemes; have F4 := F.classes; have F5 := F.props
 have G1 := G.elems; have G2 := G.attrs; have G3 := G.schemes; have G4 := G.classes; have G5 := G.props
 refine fn_run follows k_Same rfl ?_
 simp only [oq, og, oe, oh, on, c_Same, aretC_nil, List.zipIdx_cons, List.zipIdx_nil, List.map_cons, List.map_nil, Nat.zero_add]
 (try simp +decide -implicitDefEqProofs only [go_sem])
 rw [stk_box]
 refine ⟨by rfl, fun b1 h1 => ?_⟩
 (try simp +decide -implicitDefEqProofs only [go_sem])
 rw [stk_box]
 refine ⟨by rfl, fun b2 h2 => ?_⟩
 have n2 := new_ne (hp_self _ _ _) h2
 have n2' := n2.symm
 have no : ∀ (h : p ≠ q), AVal.v (.bool false) = .v (.bool (decide (p = q))) := fun h => by rw [decide_eq_false h]
 by_cases e0 : p.epoch = q.epoch
 case neg =>
  have d0 := decide_eq_false e0
  (try simp +decide -implicitDefEqProofs only [go_sem, hp_ne, n2, n2', ne_eq, not_false_eq_true, polCells, d0, lay, oneOr, List.take_succ_cons, List.take_zero, List.drop_succ_cons, List.drop_zero, List.nil_append, List.cons_append, Option.getD_some, Nat.reduceAdd, Nat.reduceLeDiff, List.append_nil, and_self, List.all_cons, List.all_nil])
  refine aret_pure (.inr rfl) ?_; simp +decide only [retOf, tget, if_true, if_false, ↓reduceIte, List.map_cons, List.map_nil]
  exact no fun h => e0 (by rw [h])
 have d0 := decide_eq_true e0
 (try simp +decide -implicitDefEqProofs only [go_sem, hp_ne, n2, n2', ne_eq, not_false_eq_true, polCells, d0, lay, oneOr, List.take_succ_cons, List.take_zero, List.drop_succ_cons, List.drop_zero, List.nil_append, List.cons_append, Option.getD_some, Nat.reduceAdd, Nat.reduceLeDiff, List.append_nil, and_self, List.all_cons, List.all_nil])
 refine stk_pureW ⟨[(14, .sl false 1 (strRows q.elems)), (12, .sl false 1 (strRows p.elems)), (3, .pl (polCells q)), (2, .pl (polCells p)), (10, .v (.bool true))], AHeap.none⟩ (Weak.list _ (Sub.none _) ?_) (sameList_ok p.elems q.elems (by omega) (by omega)) fun v hv => ?_
 ·(try simp +decide -implicitDefEqProofs only [go_sem])
  exact ⟨FZ.cellsR (hp_self _ _ _) rfl, FZ.cellsR ((hp_ne _ _ n2').trans (hp_self _ _ _)) rfl⟩
 clear n2 n2' h1 h2
 subst hv
 by_cases e1 : p.elems = q.elems
 case neg =>
  have d1 := decide_eq_false e1
  rw [d1]
  (try simp +decide -implicitDefEqProofs only [go_sem, polCells, lay, oneOr, List.take_succ_cons, List.take_zero, List.drop_succ_cons, List.drop_zero, List.nil_append, List.cons_append, Option.getD_some, Nat.reduceAdd, Nat.reduceLeDiff, List.append_nil, and_self, List.all_cons, List.all_nil])
  refine aret_pure (.inr rfl) ?_; simp +decide only [retOf, tget, if_true, if_false, ↓reduceIte, List.map_cons, List.map_nil]
  exact no fun h => e1 (by rw [h])
 have d1 := decide_eq_true e1
 rw [d1]
 (try simp +decide -implicitDefEqProofs only [go_sem, polCells, lay, oneOr, List.take_succ_cons, List.take_zero, List.drop_succ_cons, List.drop_zero, List.nil_append, List.cons_append, Option.getD_some, Nat.reduceAdd, Nat.reduceLeDiff, List.append_nil, and_self, List.all_cons, List.all_nil])
 refine stk_pure (sameList_ok p.attrs q.attrs (by omega) (by omega)) fun v hv => ?_
 subst hv
 by_cases e2 : p.attrs = q.attrs
 case neg =>
  have d2 := decide_eq_false e2
  rw [d2]
  (try simp +decide -implicitDefEqProofs only [go_sem, polCells, lay, oneOr, List.take_succ_cons, List.take_zero, List.drop_succ_cons, List.drop_zero, List.nil_append, List.cons_append, Option.getD_some, Nat.reduceAdd, Nat.reduceLeDiff, List.append_nil, and_self, List.all_cons, List.all_nil])
  refine aret_pure (.inr rfl) ?_; simp +decide only [retOf, tget, if_true, if_false, ↓reduceIte, List.map_cons, List.map_nil]
  exact no fun h => e2 (by rw [h])
 have d2 := decide_eq_true e2
 rw [d2]
 (try simp +decide -implicitDefEqProofs only [go_sem, polCells, lay, oneOr, List.take_succ_cons, List.take_zero, List.drop_succ_cons, List.drop_zero, List.nil_append, List.cons_append, Option.getD_some, Nat.reduceAdd, Nat.reduceLeDiff, List.append_nil, and_self, List.all_cons, List.all_nil])
 refine stk_pure (sameList_ok p.schemes q.schemes (by omega) (by omega)) fun v hv => ?_
 subst hv
 by_cases e3 : p.schemes = q.schemes
 case neg =>
  have d3 := decide_eq_false e3
  rw [d3]
  (try simp +decide -implicitDefEqProofs only [go_sem, polCells, lay, oneOr, List.take_succ_cons, List.take_zero, List.drop_succ_cons, List.drop_zero, List.nil_append, List.cons_append, Option.getD_some, Nat.reduceAdd, Nat.reduceLeDiff, List.append_nil, and_self, List.all_cons, List.all_nil])
  refine aret_pure (.inr rfl) ?_; simp +decide only [retOf, tget, if_true, if_false, ↓reduceIte, List.map_cons, List.map_nil]
  exact no fun h => e3 (by rw [h])
 have d3 := decide_eq_true e3
 rw [d3]
 (try simp +decide -implicitDefEqProofs only [go_sem, polCells, lay, oneOr, List.take_succ_cons, List.take_zero, List.drop_succ_cons, List.drop_zero, List.nil_append, List.cons_append, Option.getD_some, Nat.reduceAdd, Nat.reduceLeDiff, List.append_nil, and_self, List.all_cons, List.all_nil])
 refine stk_pure (sameList_ok p.classes q.classes (by omega) (by omega)) fun v hv => ?_
 subst hv
 by_cases e4 : p.classes = q.classes
 case neg =>
  have d4 := decide_eq_false e4
  rw [d4]
  (try simp +decide -implicitDefEqProofs only [go_sem, polCells, lay, oneOr, List.take_succ_cons, List.take_zero, List.drop_succ_cons, List.drop_zero, List.nil_append, List.cons_append, Option.getD_some, Nat.reduceAdd, Nat.reduceLeDiff, List.append_nil, and_self, List.all_cons, List.all_nil])
  refine aret_pure (.inr rfl) ?_; simp +decide only [retOf, tget, if_true, if_false, ↓reduceIte, List.map_cons, List.map_nil]
  exact no fun h => e4 (by rw [h])
 have d4 := decide_eq_true e4
 rw [d4]
 (try simp +decide -implicitDefEqProofs only [go_sem, polCells, lay, oneOr, List.take_succ_cons, List.take_zero, List.drop_succ_cons, List.drop_zero, List.nil_append, List.cons_append, Option.getD_some, Nat.reduceAdd, Nat.reduceLeDiff, List.append_nil, and_self, List.all_cons, List.all_nil])
 refine stk_pure (sameList_ok p.props q.props (by omega) (by omega)) fun v hv => ?_
 subst hv
 by_cases e5 : p.props = q.props
 case neg =>
  have d5 := decide_eq_false e5
  rw [d5]
  (try simp +decide -implicitDefEqProofs only [go_sem, polCells, lay, oneOr, List.take_succ_cons, List.take_zero, List.drop_succ_cons, List.drop_zero, List.nil_append, List.cons_append, Option.getD_some, Nat.reduceAdd, Nat.reduceLeDiff, List.append_nil, and_self, List.all_cons, List.all_nil])
  refine aret_pure (.inr rfl) ?_; simp +decide only [retOf, tget, if_true, if_false, ↓reduceIte, List.map_cons, List.map_nil]
  exact no fun h => e5 (by rw [h])
 have d5 := decide_eq_true e5
 rw [d5]
 by_cases e6 : p.depth = q.depth
 case neg =>
  have d6 := decide_eq_false e6
  (try simp +decide -implicitDefEqProofs only [go_sem, polCells, d6, lay, oneOr, List.take_succ_cons, List.take_zero, List.drop_succ_cons, List.drop_zero, List.nil_append, List.cons_append, Option.getD_some, Nat.reduceAdd, Nat.reduceLeDiff, List.append_nil, and_self, List.all_cons, List.all_nil])
  refine aret_pure (.inr rfl) ?_; simp +decide only [retOf, tget, if_true, if_false, ↓reduceIte, List.map_cons, List.map_nil]
  exact no fun h => e6 (by rw [h])
 have d6 := decide_eq_true e6
 by_cases e7 : p.nodes = q.nodes
 case neg =>
  have d7 := decide_eq_false e7
  (try simp +decide -implicitDefEqProofs only [go_sem, polCells, d6, d7, lay, oneOr, List.take_succ_cons, List.take_zero, List.drop_succ_cons, List.drop_zero, List.nil_append, List.cons_append, Option.getD_some, Nat.reduceAdd, Nat.reduceLeDiff, List.append_nil, and_self, List.all_cons, List.all_nil])
  refine aret_pure (.inr rfl) ?_; simp +decide only [retOf, tget, if_true, if_false, ↓reduceIte, List.map_cons, List.map_nil]
  exact no fun h => e7 (by rw [h])
 have d7 := decide_eq_true e7
 by_cases e8 : p.bytes = q.bytes
 case neg =>
  have d8 := decide_eq_false e8
  (try simp +decide -implicitDefEqProofs only [go_sem, polCells, d6, d7, d8, lay, oneOr, List.take_succ_cons, List.take_zero, List.drop_succ_cons, List.drop_zero, List.nil_append, List.cons_append, Option.getD_some, Nat.reduceAdd, Nat.reduceLeDiff, List.append_nil, and_self, List.all_cons, List.all_nil])
  refine aret_pure (.inr rfl) ?_; simp +decide only [retOf, tget, if_true, if_false, ↓reduceIte, List.map_cons, List.map_nil]
  exact no fun h => e8 (by rw [h])
 have d8 := decide_eq_true e8
 (try simp +decide -implicitDefEqProofs only [go_sem, polCells, d6, d7, d8, lay, oneOr, List.take_succ_cons, List.take_zero, List.drop_succ_cons, List.drop_zero, List.nil_append, List.cons_append, Option.getD_some, Nat.reduceAdd, Nat.reduceLeDiff, List.append_nil, and_self, List.all_cons, List.all_nil])
 refine aret_pure (.inr rfl) ?_; simp +decide only [retOf, tget, if_true, if_false, ↓reduceIte, List.map_cons, List.map_nil]
 rw [decide_eq_true (Pol.ext2 ⟨e0, e1, e2, e3, e4, e5, e6, e7, e8⟩)]
end Go.Proofs.YtfaodacmdlnabaaGreatDoor.M
