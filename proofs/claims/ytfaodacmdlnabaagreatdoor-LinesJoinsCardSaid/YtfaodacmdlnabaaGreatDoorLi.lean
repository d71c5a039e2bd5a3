/-
 Lines: the document's own Same.
-/
import Derived.Test.YtfaodacmdlnabaaGreatDoorLh
namespace Go.Proofs.YtfaodacmdlnabaaGreatDoor.M
open Go.RowKit
set_option linter.unusedVariables false
set_option linter.unusedSimpArgs false
theorem Step.ext2 {a b : Step} (h : a.dof = b.dof ∧ a.node = b.node ∧ a.n = b.n ∧ a.id = b.id ∧ a.text = b.text ∧ a.pol = b.pol) : a = b := by
 obtain ⟨a1, a2, a3, a4, a5, a6⟩ := a
 obtain ⟨b1, b2, b3, b4, b5, b6⟩ := b
 obtain ⟨h1, h2, h3, h4, h5, h6⟩ := h
 subst h1; subst h2; subst h3; subst h4; subst h5; subst h6
 rfl
instance : DecidableEq Step := fun a b => decidable_of_iff (a.dof = b.dof ∧ a.node = b.node ∧ a.n = b.n ∧ a.id = b.id ∧ a.text = b.text ∧ a.pol = b.pol) ⟨Step.ext2, fun h => by subst h; simp⟩
def c_sameStep : AFn := ⟨2, 45, [4],
 .seq (.ops [oe 2 (.box 38 (.tmp 0)),
   oe 3 (.box 38 (.tmp 1)),
   oq 4 (.mv (.const (.bool false)))])
 (.seq (.ops [oq 5 (.fad 0 1 (.tmp 2)),
   oq 6 (.ld false 1 (.tmp 5)),
   oq 7 (.fad 0 1 (.tmp 3)),
   oq 8 (.ld false 1 (.tmp 7)),
   oq 9 (.bin .eql .num (.tmp 6) (.tmp 8)),
   oq 10 (.mv (.tmp 9)),
   og 11 10 true (.fad 1 1 (.tmp 2)),
   og 12 10 true (.ld false 1 (.tmp 11)),
   og 13 10 true (.fad 1 1 (.tmp 3)),
   og 14 10 true (.ld false 1 (.tmp 13)),
   og 15 10 true (.bin .eql .num (.tmp 12) (.tmp 14)),
   oq 16 (.pick (.tmp 10) (.tmp 15) (.const (.bool false))),
   oq 17 (.mv (.tmp 16)),
   og 18 17 true (.fad 2 1 (.tmp 2)),
   og 19 17 true (.ld false 1 (.tmp 18)),
   og 20 17 true (.fad 2 1 (.tmp 3)),
   og 21 17 true (.ld false 1 (.tmp 20)),
   og 22 17 true (.bin .eql .num (.tmp 19) (.tmp 21)),
   oq 23 (.pick (.tmp 17) (.tmp 22) (.const (.bool false))),
   oq 24 (.mv (.tmp 23)),
   og 25 24 true (.fad 3 1 (.tmp 2)),
   og 26 24 true (.ld false 1 (.tmp 25)),
   og 27 24 true (.fad 3 1 (.tmp 3)),
   og 28 24 true (.ld false 1 (.tmp 27)),
   og 29 24 true (.bin .eql .num (.tmp 26) (.tmp 28)),
   oq 30 (.pick (.tmp 24) (.tmp 29) (.const (.bool false))),
   oq 31 (.mv (.tmp 30)),
   og 32 31 true (.fad 4 1 (.tmp 2)),
   og 33 31 true (.ld false 1 (.tmp 32)),
   og 34 31 true (.fad 4 1 (.tmp 3)),
   og 35 31 true (.ld false 1 (.tmp 34)),
   og 36 31 true (.bin .eql .num (.tmp 33) (.tmp 35)),
   oq 37 (.pick (.tmp 31) (.tmp 36) (.const (.bool false))),
   oq 38 (.mv (.tmp 37)),
   og 39 38 true (.fad 5 9 (.tmp 2)),
   og 40 38 true (.ld true 9 (.tmp 39)),
   og 41 38 true (.fad 5 9 (.tmp 3)),
   og 42 38 true (.ld true 9 (.tmp 41)),
   oh 43 38 true (.call 36 [(.tmp 40), (.tmp 42)]),
   oq 44 (.pick (.tmp 38) (.tmp 43) (.const (.bool false))),
   oq 4 (.mv (.tmp 44))])
 (.ret)), []⟩
theorem k_sameStep : compF Tryz.prog 22 = some c_sameStep := by kernel_rfl
set_option maxHeartbeats 4000000 in
theorem sameStep_ok {W : World} (a b : Step) (F : Lens9 a.pol) (G : Lens9 b.pol) : ACalls Tryz.prog W 22 [.agg (stepCells a), .agg (stepCells b)] AHeap.none fun v _ => v = .v (.bool (decide (a = b))) := by
 refine fn_run follows k_sameStep rfl ?_
 simp only [oq, og, oe, oh, on, c_sameStep, aretC_nil, List.zipIdx_cons, List.zipIdx_nil, List.map_cons, List.map_nil, Nat.zero_add]
 (try simp +decide -implicitDefEqProofs only [go_sem, stepCells, polCells, lay, oneOr, List.take_succ_cons, List.take_zero, List.drop_succ_cons, List.drop_zero, List.nil_append, List.cons_append, Option.getD_some, Nat.reduceAdd, Nat.reduceLeDiff, List.append_nil, and_self, List.all_cons, List.all_nil])
 rw [stk_box]
 refine ⟨by rfl, fun b1 h1 => ?_⟩
 (try simp +decide -implicitDefEqProofs only [go_sem, stepCells, polCells, lay, oneOr, List.take_succ_cons, List.take_zero, List.drop_succ_cons, List.drop_zero, List.nil_append, List.cons_append, Option.getD_some, Nat.reduceAdd, Nat.reduceLeDiff, List.append_nil, and_self, List.all_cons, List.all_nil])
 rw [stk_box]
 refine ⟨by rfl, fun b2 h2 => ?_⟩
 have n2 := new_ne (hp_self _ _ _) h2
 have n2' := n2.symm
 have no : ∀ (h : a ≠ b), AVal.v (.bool false) = .v (.bool (decide (a = b))) := fun h => by rw [decide_eq_false h]
 by_cases e1 : a.dof = b.dof
 case neg =>
  have d1 := decide_eq_false e1
  (try simp +decide -implicitDefEqProofs only [go_sem, hp_ne, n2, n2', ne_eq, not_false_eq_true, stepCells, polCells, d1, lay, oneOr, List.take_succ_cons, List.take_zero, List.drop_succ_cons, List.drop_zero, List.nil_append, List.cons_append, Option.getD_some, Nat.reduceAdd, Nat.reduceLeDiff, List.append_nil, and_self, List.all_cons, List.all_nil])
  refine aret_pure (.inr rfl) ?_; simp +decide only [retOf, tget, if_true, if_false, ↓reduceIte, List.map_cons, List.map_nil]
  exact no fun h => e1 (by rw [h])
 have d1 := decide_eq_true e1
 by_cases e2 : a.node = b.node
 case neg =>
  have d2 := decide_eq_false e2
  (try simp +decide -implicitDefEqProofs only [go_sem, hp_ne, n2, n2', ne_eq, not_false_eq_true, stepCells, polCells, d1, d2, lay, oneOr, List.take_succ_cons, List.take_zero, List.drop_succ_cons, List.drop_zero, List.nil_append, List.cons_append, Option.getD_some, Nat.reduceAdd, Nat.reduceLeDiff, List.append_nil, and_self, List.all_cons, List.all_nil])
  refine aret_pure (.inr rfl) ?_; simp +decide only [retOf, tget, if_true, if_false, ↓reduceIte, List.map_cons, List.map_nil]
  exact no fun h => e2 (by rw [h])
 have d2 := decide_eq_true e2
 by_cases e3 : a.n = b.n
 case neg =>
  have d3 := decide_eq_false e3
  (try simp +decide -implicitDefEqProofs only [go_sem, hp_ne, n2, n2', ne_eq, not_false_eq_true, stepCells, polCells, d1, d2, d3, lay, oneOr, List.take_succ_cons, List.take_zero, List.drop_succ_cons, List.drop_zero, List.nil_append, List.cons_append, Option.getD_some, Nat.reduceAdd, Nat.reduceLeDiff, List.append_nil, and_self, List.all_cons, List.all_nil])
  refine aret_pure (.inr rfl) ?_; simp +decide only [retOf, tget, if_true, if_false, ↓reduceIte, List.map_cons, List.map_nil]
  exact no fun h => e3 (by rw [h])
 have d3 := decide_eq_true e3
 by_cases e4 : a.id = b.id
 case neg =>
  have d4 := decide_eq_false e4
  (try simp +decide -implicitDefEqProofs only [go_sem, hp_ne, n2, n2', ne_eq, not_false_eq_true, stepCells, polCells, d1, d2, d3, d4, lay, oneOr, List.take_succ_cons, List.take_zero, List.drop_succ_cons, List.drop_zero, List.nil_append, List.cons_append, Option.getD_some, Nat.reduceAdd, Nat.reduceLeDiff, List.append_nil, and_self, List.all_cons, List.all_nil])
  refine aret_pure (.inr rfl) ?_; simp +decide only [retOf, tget, if_true, if_false, ↓reduceIte, List.map_cons, List.map_nil]
  exact no fun h => e4 (by rw [h])
 have d4 := decide_eq_true e4
 by_cases e5 : a.text = b.text
 case neg =>
  have d5 := decide_eq_false e5
  (try simp +decide -implicitDefEqProofs only [go_sem, hp_ne, n2, n2', ne_eq, not_false_eq_true, stepCells, polCells, d1, d2, d3, d4, d5, lay, oneOr, List.take_succ_cons, List.take_zero, List.drop_succ_cons, List.drop_zero, List.nil_append, List.cons_append, Option.getD_some, Nat.reduceAdd, Nat.reduceLeDiff, List.append_nil, and_self, List.all_cons, List.all_nil])
  refine aret_pure (.inr rfl) ?_; simp +decide only [retOf, tget, if_true, if_false, ↓reduceIte, List.map_cons, List.map_nil]
  exact no fun h => e5 (by rw [h])
 have d5 := decide_eq_true e5
 (try simp +decide -implicitDefEqProofs only [go_sem, hp_ne, n2, n2', ne_eq, not_false_eq_true, stepCells, polCells, d1, d2, d3, d4, d5, lay, oneOr, List.take_succ_cons, List.take_zero, List.drop_succ_cons, List.drop_zero, List.nil_append, List.cons_append, Option.getD_some, Nat.reduceAdd, Nat.reduceLeDiff, List.append_nil, and_self, List.all_cons, List.all_nil])
 refine stk_pure (psame_ok a.pol b.pol F G) fun v hv => ?_
 subst hv
 (try simp +decide -implicitDefEqProofs only [go_sem])
 refine aret_pure (.inr rfl) ?_; simp +decide only [retOf, tget, if_true, if_false, ↓reduceIte, List.map_cons, List.map_nil]
 have : (a.pol = b.pol) ↔ a = b := ⟨fun h => Step.ext2 ⟨e1, e2, e3, e4, e5, h⟩, fun h => by rw [h]⟩
 simp only [this]
def c_lnSame : AFn := ⟨2, 27, [4],
 .seq (.ops [oq 4 (.mv (.const (.bool false)))])
 (.seq (.seq (.ops [oq 6 (.mv (.tmp 0)),
   oq 7 (.len false (.tmp 6)),
   oq 8 (.mv (.tmp 1)),
   oq 9 (.len false (.tmp 8)),
   oq 10 (.bin .neq .num (.tmp 7) (.tmp 9))])
 (.cond (.tmp 10)
  (.seq (.ops [oq 4 (.mv (.const (.bool false)))])
  (.ret))
  (.skip)))
 (.seq (.seq (.ops [oq 5 (.mv (.const (.int .i64 0)))])
 (.block 0 (.loop (.seq (.seq (.ops [oq 11 (.mv (.tmp 5)),
     oq 12 (.mv (.tmp 0)),
     oq 13 (.len false (.tmp 12)),
     oq 14 (.bin .lss .num (.tmp 11) (.tmp 13))])
   (.cond (.tmp 14)
    (.skip)
    (.exit 0)))
   (.seq (.block 1 (.seq (.ops [oq 17 (.mv (.tmp 0)),
      oq 18 (.mv (.tmp 5)),
      oq 19 (.ixa 14 (.tmp 17) (.tmp 18)),
      oq 20 (.ld true 14 (.tmp 19)),
      oq 21 (.mv (.tmp 1)),
      oq 22 (.mv (.tmp 5)),
      oq 23 (.ixa 14 (.tmp 21) (.tmp 22)),
      oq 24 (.ld true 14 (.tmp 23)),
      oe 25 (.call 22 [(.tmp 20), (.tmp 24)]),
      oq 26 (.un .not (.tmp 25))])
    (.cond (.tmp 26)
     (.seq (.ops [oq 4 (.mv (.const (.bool false)))])
     (.ret))
     (.skip))))
   (.ops [oq 15 (.mv (.tmp 5)),
     oq 16 (.bin .add .num (.tmp 15) (.const (.int .i64 1))),
     oq 5 (.mv (.tmp 16))]))))))
 (.seq (.ops [oq 4 (.mv (.const (.bool true)))])
 (.ret)))), []⟩
theorem k_lnSame : compF Tryz.prog 12 = some c_lnSame := by kernel_rfl
set_option maxHeartbeats 4000000 in
theorem lnSame_ok {W : World} {f g : Bool} (a b : List Step) (hla : a.length ≤ 1000000) (hlb : b.length ≤ 1000000) (F : ∀ s ∈ a, Lens9 s.pol) (G : ∀ s ∈ b, Lens9 s.pol) : ACalls Tryz.prog W 12 [.sl f 14 (a.map stepCells), .sl g 14 (b.map stepCells)] AHeap.none fun v _ => v = .v (.bool (decide (a = b))) := by
 have hma : (a.map stepCells).length = a.length := by simp
 have hmb : (b.map stepCells).length = b.length := by simp
 refine fn_run follows k_lnSame rfl ?_
 simp only [oq, og, oe, oh, on, c_lnSame, aretC_nil, List.zipIdx_cons, List.zipIdx_nil, List.map_cons, List.map_nil, Nat.zero_add]
 by_cases hl : a.length = b.length
 case neg =>
  have g0 : decide ((a.length : Int) ≠ (b.length : Int)) = true := decide_eq_true (by omega)
  (try simp +decide -implicitDefEqProofs only [go_sem, hma, hmb, g0])
  refine aret_pure (.inr rfl) ?_; simp +decide only [retOf, tget, if_true, if_false, ↓reduceIte, List.map_cons, List.map_nil]
  rw [decide_eq_false (fun e => hl (by rw [e]))]
 have g0 : decide ((a.length : Int) ≠ (b.length : Int)) = false := decide_eq_false (by omega)
 (try simp +decide -implicitDefEqProofs only [go_sem, hma, hmb, g0])
 refine stk_up (α := Unit) a.length (fun i _ => ⟨[(5, .v (.int .i64 i)), (0, .sl f 14 (a.map stepCells)), (1, .sl g 14 (b.map stepCells))], AHeap.none⟩) (fun i _ => a.take i = b.take i) () (Weak.list _ (Sub.refl _) (by (try simp +decide -implicitDefEqProofs only [go_sem]); first | done | exact FZ.refl _ | exact ⟨FZ.refl _, FZ.refl _⟩)) (by simp) ?_
 rintro i ⟨⟩ hi hJ
 by_cases hlt : i < a.length
 ·have g1 : (i : Int) < (a.length : Int) := by omega
  have hlt2 : i < b.length := by omega
  have g3 : (i : Int) < (b.length : Int) := by omega
  have hw := wrap_in (n := (i : Int) + 1) (by omega) (by omega)
  have hg := stepRows_get hlt
  have hg2 := stepRows_get hlt2
  have ha : ∀ (x : Step), (stepCells x).take 14 = stepCells x := fun _ => rfl
  have hla2 : ∀ (x : Step), (stepCells x).length = 14 := fun _ => rfl
  have hone : ∀ (x : Step), (stepCells x).all (·.one) = true := fun _ => rfl
  have hF := F _ (List.getElem_mem hlt)
  have hG := G _ (List.getElem_mem hlt2)
  have hnext : a[i] = b[i] → a.take (i + 1) = b.take (i + 1) := fun h => by
   rw [List.take_succ_eq_append_getElem hlt, List.take_succ_eq_append_getElem hlt2, hJ, h]
  have hno : a[i] ≠ b[i] → AVal.v (.bool false) = .v (.bool (decide (a = b))) := fun h => by
   rw [decide_eq_false (fun e => h (by subst e; rfl))]
  generalize a[i] = x at hg hF hnext hno
  generalize b[i] = y at hg2 hG hnext hno
  (try simp +decide -implicitDefEqProofs only [go_sem, g1, g3, hma, hmb, hlt, hlt2, hg, hg2, stepCells, polCells, lay, oneOr, List.take_succ_cons, List.take_zero, List.drop_succ_cons, List.drop_zero, List.nil_append, List.cons_append, Option.getD_some, Nat.reduceAdd, Nat.reduceLeDiff, List.append_nil, and_self, List.all_cons, List.all_nil])
  refine stk_pure (sameStep_ok x y hF hG) fun v hv => ?_
  subst hv
  by_cases hs : x = y
  ·rw [decide_eq_true hs]
   (try simp +decide -implicitDefEqProofs only [go_sem, hw, hlt])
   exact ⟨(), Weak.list _ (Sub.refl _) (by (try simp +decide -implicitDefEqProofs only [go_sem])), hnext hs⟩
  ·rw [decide_eq_false hs]
   (try simp +decide -implicitDefEqProofs only [go_sem])
   refine aret_pure (.inr rfl) ?_; simp +decide only [retOf, tget, if_true, if_false, ↓reduceIte, List.map_cons, List.map_nil]
   exact hno hs
 ·have g1 : ¬ (i : Int) < (a.length : Int) := by omega
  (try simp +decide -implicitDefEqProofs only [go_sem, g1, hma])
  refine aret_pure (.inr rfl) ?_; simp +decide only [retOf, tget, if_true, if_false, ↓reduceIte, List.map_cons, List.map_nil]
  rw [List.take_of_length_le (by omega), List.take_of_length_le (by omega)] at hJ
  rw [decide_eq_true hJ]
end Go.Proofs.YtfaodacmdlnabaaGreatDoor.M
