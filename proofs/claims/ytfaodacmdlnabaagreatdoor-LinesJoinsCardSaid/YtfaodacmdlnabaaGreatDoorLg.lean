/-
 Lines: the step that a line may be.
-/
import Derived.Test.YtfaodacmdlnabaaGreatDoorLf
namespace Go.Proofs.YtfaodacmdlnabaaGreatDoor.M
open Go.RowKit
set_option linter.unusedVariables false
set_option linter.unusedSimpArgs false
def doUpTo (w : Str) : Nat → Int
 | 0 => 0
 | i + 1 => if wordS ((i : Int) + 1) = w then (i : Int) + 1 else doUpTo w i
def doOf (w : Str) : Int := doUpTo w 10
def plainD (s : Str) : Str := match plainL (bl s) with
 | some l => mkS l
 | none => ByteArray.empty
theorem plainR_eq (s : Str) : plainR s = .tup [.v (.string (plainD s)), .v (.bool (plainL (bl s)).isSome)] := by
 unfold plainR plainD
 cases plainL (bl s) <;> rfl
def polD (t : Str) : Pol := if rightP (readP t) = true ∧ textP (readP t) = t then readP t else pol0
theorem readR_eq (t : Str) : ∃ e, readR t = .tup [.agg (polCells (polD t)), e] := by
 unfold readR polD
 split
 ·exact ⟨_, rfl⟩
 ·exact ⟨_, rfl⟩
def stepP (s : Str) : Step :=
 if doOf (cutT s spS).1 = 3 then ⟨doOf (cutT s spS).1, 0, 0, ByteArray.empty, ByteArray.empty, polD (plainD (cutT s spS).2.1)⟩
 else if doOf (cutT s spS).1 = 5 ∨ doOf (cutT s spS).1 = 6 ∨ doOf (cutT s spS).1 = 7 then ⟨doOf (cutT s spS).1, 0, numP (cutT (cutT s spS).2.1 spS).1, ByteArray.empty, ByteArray.empty, pol0⟩
 else if doOf (cutT s spS).1 = 8 ∨ doOf (cutT s spS).1 = 10 then ⟨doOf (cutT s spS).1, numP (cutT (cutT s spS).2.1 spS).1, numP (cutT (cutT s spS).2.1 spS).2.1, ByteArray.empty, ByteArray.empty, pol0⟩
 else if doOf (cutT s spS).1 = 1 ∨ doOf (cutT s spS).1 = 2 then ⟨doOf (cutT s spS).1, numP (cutT (cutT s spS).2.1 spS).1, 0, (cutT (cutT (cutT s spS).2.1 spS).2.1 spS).1, plainD (cutT (cutT (cutT s spS).2.1 spS).2.1 spS).2.1, pol0⟩
 else ⟨doOf (cutT s spS).1, numP (cutT (cutT s spS).2.1 spS).1, 0, ByteArray.empty, ByteArray.empty, pol0⟩
theorem cutT_size (s : Str) (b : UInt8) : (cutT s ⟨#[b]⟩).1.size ≤ s.size ∧ (cutT s ⟨#[b]⟩).2.1.size ≤ s.size := by
 have h : cutT s ⟨#[b]⟩ = (mkS (Lib.cut (bl s) [b]).1, mkS (Lib.cut (bl s) [b]).2.1, (Lib.cut (bl s) [b]).2.2) := rfl
 rw [h]
 dsimp only
 rw [mkS_size, mkS_size, ← bl_len s]
 rcases cut_byte b (bl s) with ⟨e, _⟩ | ⟨x, t, e1, _, e3⟩
 ·rw [e]; exact ⟨Nat.le_refl _, Nat.zero_le _⟩
 ·rw [e3, e1]; simp; omega
abbrev zero13 : List AVal := [.v (.int .i64 0), .v (.int .i64 0), .v (.string ByteArray.empty), .v (.string ByteArray.empty), .v (.int .i64 0), .v (.slice none 0 0), .v (.slice none 0 0), .v (.slice none 0 0), .v (.slice none 0 0), .v (.slice none 0 0), .v (.int .i64 0), .v (.int .i64 0), .v (.int .i64 0)]
abbrev tStep : Nat := 38
abbrev HH (r x : Nat) (d : Int) : AHeap := (AHeap.none.put r (.cells tStep (.v (.int .i64 0) :: zero13))).put x (.cells tStep (.v (.int .i64 d) :: zero13))
theorem FZ.step0 {H H' : AHeap} (d n k : Int) (i t : Str) : FZ H H' (.agg [.v (.int .i64 d), .v (.int .i64 n), .v (.int .i64 k), .v (.string i), .v (.string t), .v (.int .i64 0), .v (.slice none 0 0), .v (.slice none 0 0), .v (.slice none 0 0), .v (.slice none 0 0), .v (.slice none 0 0), .v (.int .i64 0), .v (.int .i64 0), .v (.int .i64 0)]) (.agg (stepCells ⟨d, n, k, i, t, pol0⟩)) := by
 refine .agg rfl (fun j hj => ?_) (fun j hj hj' => ?_)
 ·rcases j with _ | _ | _ | _ | _ | _ | _ | _ | _ | _ | _ | _ | _ | _ | j
  iterate 14 rfl
  simp [stepCells, polCells] at hj; omega
 ·rcases j with _ | _ | _ | _ | _ | _ | _ | _ | _ | _ | _ | _ | _ | _ | j
  iterate 6 exact .refl _
  iterate 5 exact .nil 1
  iterate 3 exact .refl _
  simp at hj; omega
def c_stepOf : AFn := ⟨1, 98, [98],
 .seq (.ops [oe 2 (.alloc 38 [(.int .i64 0), (.int .i64 0), (.int .i64 0), (.string ByteArray.empty), (.string ByteArray.empty), (.int .i64 0), (.slice none 0 0), (.slice none 0 0), (.slice none 0 0), (.slice none 0 0), (.slice none 0 0), (.int .i64 0), (.int .i64 0), (.int .i64 0)])])
 (.seq (.ops [oq 19 (.mv (.tmp 0)),
   oe 20 (.call 20 [(.tmp 19), (.const (.string ⟨#[32]⟩))]),
   oq 18 (.mv (.tmp 20)),
   oq 21 (.ext (.tmp 18) 0),
   oq 22 (.ext (.tmp 18) 1),
   oq 23 (.ext (.tmp 18) 2),
   oq 3 (.mv (.tmp 21)),
   oq 4 (.mv (.tmp 22)),
   oq 5 (.mv (.tmp 23))])
 (.seq (.ops [oe 6 (.alloc 38 [(.int .i64 0), (.int .i64 0), (.int .i64 0), (.string ByteArray.empty), (.string ByteArray.empty), (.int .i64 0), (.slice none 0 0), (.slice none 0 0), (.slice none 0 0), (.slice none 0 0), (.slice none 0 0), (.int .i64 0), (.int .i64 0), (.int .i64 0)])])
 (.seq (.seq (.ops [oq 7 (.mv (.const (.int .i64 1)))])
 (.block 0 (.loop (.seq (.seq (.ops [oq 24 (.mv (.tmp 7)),
     oq 25 (.bin .leq .num (.tmp 24) (.const (.int .i64 10)))])
   (.cond (.tmp 25)
    (.skip)
    (.exit 0)))
   (.seq (.block 1 (.seq (.ops [oq 28 (.mv (.tmp 7)),
      oe 29 (.call 28 [(.tmp 28)]),
      oq 30 (.mv (.tmp 3)),
      oq 31 (.bin .eql .num (.tmp 29) (.tmp 30))])
    (.cond (.tmp 31)
     (.ops [oq 32 (.mv (.tmp 7)),
       oq 33 (.fad 0 1 (.tmp 6)),
       on (.st 1 (.tmp 33) (.tmp 32))])
     (.skip))))
   (.ops [oq 26 (.mv (.tmp 7)),
     oq 27 (.bin .add .num (.tmp 26) (.const (.int .i64 1))),
     oq 7 (.mv (.tmp 27))]))))))
 (.seq (.seq (.ops [oq 34 (.fad 0 1 (.tmp 6)),
   oq 35 (.ld false 1 (.tmp 34)),
   oq 36 (.bin .eql .num (.tmp 35) (.const (.int .i64 3)))])
 (.cond (.tmp 36)
  (.seq (.ops [oq 38 (.mv (.tmp 4)),
    oe 39 (.call 33 [(.tmp 38)]),
    oq 37 (.mv (.tmp 39)),
    oq 40 (.ext (.tmp 37) 0),
    oq 41 (.ext (.tmp 37) 1),
    oq 8 (.mv (.tmp 40)),
    oq 9 (.mv (.tmp 41))])
  (.seq (.ops [oq 43 (.mv (.tmp 8)),
    oe 44 (.call 34 [(.tmp 43)]),
    oq 42 (.mv (.tmp 44)),
    oq 45 (.ext (.tmp 42) 0),
    oq 46 (.ext (.tmp 42) 1),
    oq 47 (.fad 5 9 (.tmp 6)),
    on (.st 9 (.tmp 47) (.tmp 45))])
  (.seq (.ops [oq 48 (.ld true 14 (.tmp 6)),
    on (.st 14 (.tmp 2) (.tmp 48))])
  (.ret))))
  (.skip)))
 (.seq (.ops [oq 50 (.mv (.tmp 4)),
   oe 51 (.call 20 [(.tmp 50), (.const (.string ⟨#[32]⟩))]),
   oq 49 (.mv (.tmp 51)),
   oq 52 (.ext (.tmp 49) 0),
   oq 53 (.ext (.tmp 49) 1),
   oq 54 (.ext (.tmp 49) 2),
   oq 10 (.mv (.tmp 52)),
   oq 11 (.mv (.tmp 53)),
   oq 12 (.mv (.tmp 54))])
 (.seq (.ops [oq 56 (.mv (.tmp 10)),
   oe 57 (.call 35 [(.tmp 56)]),
   oq 55 (.mv (.tmp 57)),
   oq 58 (.ext (.tmp 55) 0),
   oq 59 (.ext (.tmp 55) 1),
   oq 13 (.mv (.tmp 58)),
   oq 14 (.mv (.tmp 59))])
 (.seq (.seq (.ops [oq 60 (.fad 0 1 (.tmp 6)),
   oq 61 (.ld false 1 (.tmp 60))])
 (.block 2 (.seq (.seq (.ops [oq 63 (.bin .eql .num (.tmp 61) (.const (.int .i64 5))),
    oq 62 (.mv (.tmp 63))])
  (.cond (.tmp 62)
   (.skip)
   (.seq (.ops [oq 64 (.bin .eql .num (.tmp 61) (.const (.int .i64 6))),
     oq 62 (.mv (.tmp 64))])
   (.cond (.tmp 62)
    (.skip)
    (.ops [oq 65 (.bin .eql .num (.tmp 61) (.const (.int .i64 7))),
      oq 62 (.mv (.tmp 65))])))))
  (.cond (.tmp 62)
   (.seq (.ops [oq 66 (.mv (.tmp 13)),
     oq 67 (.fad 2 1 (.tmp 6)),
     on (.st 1 (.tmp 67) (.tmp 66))])
   (.seq (.ops [oq 68 (.ld true 14 (.tmp 6)),
     on (.st 14 (.tmp 2) (.tmp 68))])
   (.ret)))
   (.seq (.seq (.ops [oq 70 (.bin .eql .num (.tmp 61) (.const (.int .i64 8))),
     oq 69 (.mv (.tmp 70))])
   (.cond (.tmp 69)
    (.skip)
    (.ops [oq 71 (.bin .eql .num (.tmp 61) (.const (.int .i64 10))),
      oq 69 (.mv (.tmp 71))])))
   (.cond (.tmp 69)
    (.ops [oq 73 (.mv (.tmp 11)),
      oe 74 (.call 35 [(.tmp 73)]),
      oq 72 (.mv (.tmp 74)),
      oq 75 (.ext (.tmp 72) 0),
      oq 76 (.ext (.tmp 72) 1),
      oq 77 (.fad 2 1 (.tmp 6)),
      on (.st 1 (.tmp 77) (.tmp 75))])
    (.seq (.seq (.ops [oq 79 (.bin .eql .num (.tmp 61) (.const (.int .i64 1))),
      oq 78 (.mv (.tmp 79))])
    (.cond (.tmp 78)
     (.skip)
     (.ops [oq 80 (.bin .eql .num (.tmp 61) (.const (.int .i64 2))),
       oq 78 (.mv (.tmp 80))])))
    (.cond (.tmp 78)
     (.seq (.ops [oq 82 (.mv (.tmp 11)),
       oe 83 (.call 20 [(.tmp 82), (.const (.string ⟨#[32]⟩))]),
       oq 81 (.mv (.tmp 83)),
       oq 84 (.ext (.tmp 81) 0),
       oq 85 (.ext (.tmp 81) 1),
       oq 86 (.ext (.tmp 81) 2),
       oq 15 (.mv (.tmp 84)),
       oq 16 (.mv (.tmp 85)),
       oq 17 (.mv (.tmp 86))])
     (.seq (.ops [oq 87 (.mv (.tmp 15)),
       oq 88 (.fad 3 1 (.tmp 6)),
       on (.st 1 (.tmp 88) (.tmp 87))])
     (.ops [oq 90 (.mv (.tmp 16)),
       oe 91 (.call 33 [(.tmp 90)]),
       oq 89 (.mv (.tmp 91)),
       oq 92 (.ext (.tmp 89) 0),
       oq 93 (.ext (.tmp 89) 1),
       oq 94 (.fad 4 1 (.tmp 6)),
       on (.st 1 (.tmp 94) (.tmp 92))])))
     (.skip)))))))))
 (.seq (.ops [oq 95 (.mv (.tmp 13)),
   oq 96 (.fad 1 1 (.tmp 6)),
   on (.st 1 (.tmp 96) (.tmp 95))])
 (.seq (.ops [oq 97 (.ld true 14 (.tmp 6)),
   on (.st 14 (.tmp 2) (.tmp 97))])
 (.ret)))))))))), [(98, (2, (true, 14)))]⟩
theorem k_stepOf : compF Tryz.prog 21 = some c_stepOf := by kernel_rfl
set_option maxHeartbeats 8000000 in
theorem stepOf_ok {W : World} (L : Laid W) (E : Errs W) (s : Str) (hs : s.size ≤ 1000000) (hP : doOf (cutT s spS).1 = 3 → (plainD (cutT s spS).2.1).size ≤ 19000) : ACalls Tryz.prog W 21 [.v (.string s)] AHeap.none fun v _ => v = .agg (stepCells (stepP s)) := by
 refine fn_run follows k_stepOf rfl ?_
 simp only [oq, og, oe, oh, on, c_stepOf, aretC_nil, List.zipIdx_cons, List.zipIdx_nil, List.map_cons, List.map_nil, Nat.zero_add]
 (try simp +decide -implicitDefEqProofs only [go_sem])
 rw [stk_alloc]
 intro r hr
 (try simp +decide -implicitDefEqProofs only [go_sem])
 refine stk_pure (cut_ok L s spS (by omega)) fun v hv => ?_
 subst hv
 have hz1 := (cutT_size s 32).2
 unfold stepP
 have hz1 : (cutT s spS).2.1.size ≤ s.size := hz1
 generalize (cutT s spS).1 = w at hP ⊢
 generalize (cutT s spS).2.1 = tail at hP hz1 ⊢
 generalize (cutT s spS).2.2 = is
 (try simp +decide -implicitDefEqProofs only [go_sem])
 rw [stk_alloc]
 intro x hx
 have nxr := new_ne (hp_self _ _ _) hx
 (try simp +decide -implicitDefEqProofs only [go_sem])
 refine stk_up (α := Int) 10 (fun i d => ⟨[(7, .v (.int .i64 ((i : Int) + 1))), (6, .v (.pointer (some ⟨x, 0, none⟩))), (4, .v (.string tail)), (3, .v (.string w)), (2, .v (.pointer (some ⟨r, 0, none⟩)))], HH r x d⟩) (fun i d => d = doUpTo w i) 0 (Weak.list _ (Sub.refl _) (by (try simp +decide -implicitDefEqProofs only [go_sem]); exact FZ.refl _)) rfl ?_
 rintro i d hi hd
 by_cases hlt : i < 10
 ·have g1 : (i : Int) + 1 ≤ 10 := by omega
  have hw := wrap_in (n := (i : Int) + 1 + 1) (by omega) (by omega)
  have hcast : ((i : Int) + 1 + 1) = ((i + 1 : Nat) : Int) + 1 := by omega
  (try simp +decide -implicitDefEqProofs only [go_sem, g1])
  refine stk_pure (word_okL _) fun v hv => ?_
  subst hv
  by_cases he : wordS ((i : Int) + 1) = w
  ·have e1 := decide_eq_true he
   (try simp +decide -implicitDefEqProofs only [go_sem, e1, hp_self, hp_hp, hw, hlt, HH, zero13, lay, oneOr, List.take_succ_cons, List.take_zero, List.drop_succ_cons, List.drop_zero, List.nil_append, List.cons_append, Option.getD_some, Nat.reduceAdd, Nat.reduceLeDiff, List.append_nil, and_self, List.all_cons, List.all_nil])
   refine ⟨(i : Int) + 1, Weak.list _ (Sub.refl _) (by (try simp +decide -implicitDefEqProofs only [go_sem, hcast])), ?_⟩
   rw [doUpTo, if_pos he]
  ·have e1 := decide_eq_false he
   (try simp +decide -implicitDefEqProofs only [go_sem, e1, hw, hlt])
   refine ⟨d, Weak.list _ (Sub.refl _) (by (try simp +decide -implicitDefEqProofs only [go_sem, hcast])), ?_⟩
   rw [doUpTo, if_neg he]; exact hd
 have g1 : ¬ (i : Int) + 1 ≤ 10 := by omega
 obtain rfl : i = 10 := by omega
 have hdo : d = doOf w := hd
 rw [← hdo] at hP ⊢
 clear hd hdo
 by_cases h3 : d = 3
 ·have e3 := decide_eq_true h3
  rw [if_pos h3]
  (try simp +decide -implicitDefEqProofs only [go_sem, g1, e3, hp_self, HH, zero13, lay, oneOr, List.take_succ_cons, List.take_zero, List.drop_succ_cons, List.drop_zero, List.nil_append, List.cons_append, Option.getD_some, Nat.reduceAdd, Nat.reduceLeDiff, List.append_nil, and_self, List.all_cons, List.all_nil])
  refine stk_pure (plain_ok L tail (by omega)) fun v hv => ?_
  subst hv
  rw [plainR_eq]
  have hz2 := hP h3
  generalize plainD tail = t at hz2 ⊢
  (try simp +decide -implicitDefEqProofs only [go_sem])
  refine stk_pure (read_ok L E t hz2) fun v hv => ?_
  subst hv
  obtain ⟨e, he⟩ := readR_eq t
  rw [he]
  (try simp +decide -implicitDefEqProofs only [go_sem, polCells, hp_self, hp_hp, hp_ne, nxr, Ne.symm nxr, ne_eq, not_false_eq_true, zero13, lay, oneOr, List.take_succ_cons, List.take_zero, List.drop_succ_cons, List.drop_zero, List.nil_append, List.cons_append, Option.getD_some, Nat.reduceAdd, Nat.reduceLeDiff, List.append_nil, and_self, List.all_cons, List.all_nil])
  refine aretC_one (by (try simp +decide -implicitDefEqProofs only [go_sem, hp_self, hp_ne, nxr, Ne.symm nxr, ne_eq, not_false_eq_true, lay, oneOr, List.take_succ_cons, List.take_zero, List.drop_succ_cons, List.drop_zero, List.nil_append, List.cons_append, Option.getD_some, Nat.reduceAdd, Nat.reduceLeDiff, List.append_nil, and_self, List.all_cons, List.all_nil])) ?_
  (try simp +decide -implicitDefEqProofs only [go_sem, hp_self, hp_ne, nxr, Ne.symm nxr, ne_eq, not_false_eq_true, lay, oneOr, List.take_succ_cons, List.take_zero, List.drop_succ_cons, List.drop_zero, List.nil_append, List.cons_append, Option.getD_some, Nat.reduceAdd, Nat.reduceLeDiff, List.append_nil, and_self, List.all_cons, List.all_nil])
  exact ⟨.inr rfl, AHeap.none, _, Sub.none _, .refl _, rfl⟩
 have e3 := decide_eq_false h3
 rw [if_neg h3]
 (try simp +decide -implicitDefEqProofs only [go_sem, g1, e3, hp_self, hp_hp, hp_ne, nxr, Ne.symm nxr, ne_eq, not_false_eq_true, HH, zero13, lay, oneOr, List.take_succ_cons, List.take_zero, List.drop_succ_cons, List.drop_zero, List.nil_append, List.cons_append, Option.getD_some, Nat.reduceAdd, Nat.reduceLeDiff, List.append_nil, and_self, List.all_cons, List.all_nil])
 refine stk_pure (cut_ok L tail spS (by omega)) fun v hv => ?_
 subst hv
 have hy1 : (cutT tail spS).1.size ≤ tail.size := (cutT_size tail 32).1
 have hy2 : (cutT tail spS).2.1.size ≤ tail.size := (cutT_size tail 32).2
 generalize (cutT tail spS).1 = first at hy1 ⊢
 generalize (cutT tail spS).2.1 = more at hy2 ⊢
 generalize (cutT tail spS).2.2 = is2
 (try simp +decide -implicitDefEqProofs only [go_sem])
 refine stk_pure (atoi_ok E first (by omega)) fun v hv => ?_
 obtain ⟨e, rfl, -⟩ := hv
 generalize numP first = n
 by_cases h5 : d = 5
 ·subst h5
  rw [if_pos (by omega)]
  (try simp +decide -implicitDefEqProofs only [go_sem, hp_self, hp_hp, hp_ne, nxr, Ne.symm nxr, ne_eq, not_false_eq_true, HH, zero13, lay, oneOr, List.take_succ_cons, List.take_zero, List.drop_succ_cons, List.drop_zero, List.nil_append, List.cons_append, Option.getD_some, Nat.reduceAdd, Nat.reduceLeDiff, List.append_nil, and_self, List.all_cons, List.all_nil])
  refine aretC_one (by (try simp +decide -implicitDefEqProofs only [go_sem, hp_self, hp_ne, nxr, Ne.symm nxr, ne_eq, not_false_eq_true, lay, oneOr, List.take_succ_cons, List.take_zero, List.drop_succ_cons, List.drop_zero, List.nil_append, List.cons_append, Option.getD_some, Nat.reduceAdd, Nat.reduceLeDiff, List.append_nil, and_self, List.all_cons, List.all_nil])) ?_
  (try simp +decide -implicitDefEqProofs only [go_sem, hp_self, hp_ne, nxr, Ne.symm nxr, ne_eq, not_false_eq_true, lay, oneOr, List.take_succ_cons, List.take_zero, List.drop_succ_cons, List.drop_zero, List.nil_append, List.cons_append, Option.getD_some, Nat.reduceAdd, Nat.reduceLeDiff, List.append_nil, and_self, List.all_cons, List.all_nil])
  exact ⟨.inr rfl, AHeap.none, _, Sub.none _, FZ.step0 _ _ _ _ _, rfl⟩
 by_cases h6 : d = 6
 ·subst h6
  rw [if_pos (by omega)]
  (try simp +decide -implicitDefEqProofs only [go_sem, hp_self, hp_hp, hp_ne, nxr, Ne.symm nxr, ne_eq, not_false_eq_true, HH, zero13, lay, oneOr, List.take_succ_cons, List.take_zero, List.drop_succ_cons, List.drop_zero, List.nil_append, List.cons_append, Option.getD_some, Nat.reduceAdd, Nat.reduceLeDiff, List.append_nil, and_self, List.all_cons, List.all_nil])
  refine aretC_one (by (try simp +decide -implicitDefEqProofs only [go_sem, hp_self, hp_ne, nxr, Ne.symm nxr, ne_eq, not_false_eq_true, lay, oneOr, List.take_succ_cons, List.take_zero, List.drop_succ_cons, List.drop_zero, List.nil_append, List.cons_append, Option.getD_some, Nat.reduceAdd, Nat.reduceLeDiff, List.append_nil, and_self, List.all_cons, List.all_nil])) ?_
  (try simp +decide -implicitDefEqProofs only [go_sem, hp_self, hp_ne, nxr, Ne.symm nxr, ne_eq, not_false_eq_true, lay, oneOr, List.take_succ_cons, List.take_zero, List.drop_succ_cons, List.drop_zero, List.nil_append, List.cons_append, Option.getD_some, Nat.reduceAdd, Nat.reduceLeDiff, List.append_nil, and_self, List.all_cons, List.all_nil])
  exact ⟨.inr rfl, AHeap.none, _, Sub.none _, FZ.step0 _ _ _ _ _, rfl⟩
 by_cases h7 : d = 7
 ·subst h7
  rw [if_pos (by omega)]
  (try simp +decide -implicitDefEqProofs only [go_sem, hp_self, hp_hp, hp_ne, nxr, Ne.symm nxr, ne_eq, not_false_eq_true, HH, zero13, lay, oneOr, List.take_succ_cons, List.take_zero, List.drop_succ_cons, List.drop_zero, List.nil_append, List.cons_append, Option.getD_some, Nat.reduceAdd, Nat.reduceLeDiff, List.append_nil, and_self, List.all_cons, List.all_nil])
  refine aretC_one (by (try simp +decide -implicitDefEqProofs only [go_sem, hp_self, hp_ne, nxr, Ne.symm nxr, ne_eq, not_false_eq_true, lay, oneOr, List.take_succ_cons, List.take_zero, List.drop_succ_cons, List.drop_zero, List.nil_append, List.cons_append, Option.getD_some, Nat.reduceAdd, Nat.reduceLeDiff, List.append_nil, and_self, List.all_cons, List.all_nil])) ?_
  (try simp +decide -implicitDefEqProofs only [go_sem, hp_self, hp_ne, nxr, Ne.symm nxr, ne_eq, not_false_eq_true, lay, oneOr, List.take_succ_cons, List.take_zero, List.drop_succ_cons, List.drop_zero, List.nil_append, List.cons_append, Option.getD_some, Nat.reduceAdd, Nat.reduceLeDiff, List.append_nil, and_self, List.all_cons, List.all_nil])
  exact ⟨.inr rfl, AHeap.none, _, Sub.none _, FZ.step0 _ _ _ _ _, rfl⟩
 rw [if_neg (by omega)]
 by_cases h8 : d = 8
 ·subst h8
  rw [if_pos (by omega)]
  (try simp +decide -implicitDefEqProofs only [go_sem, hp_self, hp_hp, hp_ne, nxr, Ne.symm nxr, ne_eq, not_false_eq_true, HH, zero13, lay, oneOr, List.take_succ_cons, List.take_zero, List.drop_succ_cons, List.drop_zero, List.nil_append, List.cons_append, Option.getD_some, Nat.reduceAdd, Nat.reduceLeDiff, List.append_nil, and_self, List.all_cons, List.all_nil])
  refine stk_pure (atoi_ok E more (by omega)) fun v hv => ?_
  obtain ⟨e', rfl, -⟩ := hv
  generalize numP more = k
  (try simp +decide -implicitDefEqProofs only [go_sem, hp_self, hp_hp, hp_ne, nxr, Ne.symm nxr, ne_eq, not_false_eq_true, HH, zero13, lay, oneOr, List.take_succ_cons, List.take_zero, List.drop_succ_cons, List.drop_zero, List.nil_append, List.cons_append, Option.getD_some, Nat.reduceAdd, Nat.reduceLeDiff, List.append_nil, and_self, List.all_cons, List.all_nil])
  refine aretC_one (by (try simp +decide -implicitDefEqProofs only [go_sem, hp_self, hp_ne, nxr, Ne.symm nxr, ne_eq, not_false_eq_true, lay, oneOr, List.take_succ_cons, List.take_zero, List.drop_succ_cons, List.drop_zero, List.nil_append, List.cons_append, Option.getD_some, Nat.reduceAdd, Nat.reduceLeDiff, List.append_nil, and_self, List.all_cons, List.all_nil])) ?_
  (try simp +decide -implicitDefEqProofs only [go_sem, hp_self, hp_ne, nxr, Ne.symm nxr, ne_eq, not_false_eq_true, lay, oneOr, List.take_succ_cons, List.take_zero, List.drop_succ_cons, List.drop_zero, List.nil_append, List.cons_append, Option.getD_some, Nat.reduceAdd, Nat.reduceLeDiff, List.append_nil, and_self, List.all_cons, List.all_nil])
  exact ⟨.inr rfl, AHeap.none, _, Sub.none _, FZ.step0 _ _ _ _ _, rfl⟩
 by_cases h10 : d = 10
 ·subst h10
  rw [if_pos (by omega)]
  (try simp +decide -implicitDefEqProofs only [go_sem, hp_self, hp_hp, hp_ne, nxr, Ne.symm nxr, ne_eq, not_false_eq_true, HH, zero13, lay, oneOr, List.take_succ_cons, List.take_zero, List.drop_succ_cons, List.drop_zero, List.nil_append, List.cons_append, Option.getD_some, Nat.reduceAdd, Nat.reduceLeDiff, List.append_nil, and_self, List.all_cons, List.all_nil])
  refine stk_pure (atoi_ok E more (by omega)) fun v hv => ?_
  obtain ⟨e', rfl, -⟩ := hv
  generalize numP more = k
  (try simp +decide -implicitDefEqProofs only [go_sem, hp_self, hp_hp, hp_ne, nxr, Ne.symm nxr, ne_eq, not_false_eq_true, HH, zero13, lay, oneOr, List.take_succ_cons, List.take_zero, List.drop_succ_cons, List.drop_zero, List.nil_append, List.cons_append, Option.getD_some, Nat.reduceAdd, Nat.reduceLeDiff, List.append_nil, and_self, List.all_cons, List.all_nil])
  refine aretC_one (by (try simp +decide -implicitDefEqProofs only [go_sem, hp_self, hp_ne, nxr, Ne.symm nxr, ne_eq, not_false_eq_true, lay, oneOr, List.take_succ_cons, List.take_zero, List.drop_succ_cons, List.drop_zero, List.nil_append, List.cons_append, Option.getD_some, Nat.reduceAdd, Nat.reduceLeDiff, List.append_nil, and_self, List.all_cons, List.all_nil])) ?_
  (try simp +decide -implicitDefEqProofs only [go_sem, hp_self, hp_ne, nxr, Ne.symm nxr, ne_eq, not_false_eq_true, lay, oneOr, List.take_succ_cons, List.take_zero, List.drop_succ_cons, List.drop_zero, List.nil_append, List.cons_append, Option.getD_some, Nat.reduceAdd, Nat.reduceLeDiff, List.append_nil, and_self, List.all_cons, List.all_nil])
  exact ⟨.inr rfl, AHeap.none, _, Sub.none _, FZ.step0 _ _ _ _ _, rfl⟩
 rw [if_neg (by omega)]
 by_cases h1 : d = 1
 ·subst h1
  rw [if_pos (by omega)]
  (try simp +decide -implicitDefEqProofs only [go_sem, hp_self, hp_hp, hp_ne, nxr, Ne.symm nxr, ne_eq, not_false_eq_true, HH, zero13, lay, oneOr, List.take_succ_cons, List.take_zero, List.drop_succ_cons, List.drop_zero, List.nil_append, List.cons_append, Option.getD_some, Nat.reduceAdd, Nat.reduceLeDiff, List.append_nil, and_self, List.all_cons, List.all_nil])
  refine stk_pure (cut_ok L more spS (by omega)) fun v hv => ?_
  subst hv
  have hx2 : (cutT more spS).2.1.size ≤ more.size := (cutT_size more 32).2
  generalize (cutT more spS).1 = idt
  generalize (cutT more spS).2.1 = txt at hx2 ⊢
  generalize (cutT more spS).2.2 = is3
  (try simp +decide -implicitDefEqProofs only [go_sem, hp_self, hp_hp, hp_ne, nxr, Ne.symm nxr, ne_eq, not_false_eq_true, HH, zero13, lay, oneOr, List.take_succ_cons, List.take_zero, List.drop_succ_cons, List.drop_zero, List.nil_append, List.cons_append, Option.getD_some, Nat.reduceAdd, Nat.reduceLeDiff, List.append_nil, and_self, List.all_cons, List.all_nil])
  refine stk_pure (plain_ok L txt (by omega)) fun v hv => ?_
  subst hv
  rw [plainR_eq]
  generalize plainD txt = t
  (try simp +decide -implicitDefEqProofs only [go_sem, hp_self, hp_hp, hp_ne, nxr, Ne.symm nxr, ne_eq, not_false_eq_true, HH, zero13, lay, oneOr, List.take_succ_cons, List.take_zero, List.drop_succ_cons, List.drop_zero, List.nil_append, List.cons_append, Option.getD_some, Nat.reduceAdd, Nat.reduceLeDiff, List.append_nil, and_self, List.all_cons, List.all_nil])
  refine aretC_one (by (try simp +decide -implicitDefEqProofs only [go_sem, hp_self, hp_ne, nxr, Ne.symm nxr, ne_eq, not_false_eq_true, lay, oneOr, List.take_succ_cons, List.take_zero, List.drop_succ_cons, List.drop_zero, List.nil_append, List.cons_append, Option.getD_some, Nat.reduceAdd, Nat.reduceLeDiff, List.append_nil, and_self, List.all_cons, List.all_nil])) ?_
  (try simp +decide -implicitDefEqProofs only [go_sem, hp_self, hp_ne, nxr, Ne.symm nxr, ne_eq, not_false_eq_true, lay, oneOr, List.take_succ_cons, List.take_zero, List.drop_succ_cons, List.drop_zero, List.nil_append, List.cons_append, Option.getD_some, Nat.reduceAdd, Nat.reduceLeDiff, List.append_nil, and_self, List.all_cons, List.all_nil])
  exact ⟨.inr rfl, AHeap.none, _, Sub.none _, FZ.step0 _ _ _ _ _, rfl⟩
 by_cases h2 : d = 2
 ·subst h2
  rw [if_pos (by omega)]
  (try simp +decide -implicitDefEqProofs only [go_sem, hp_self, hp_hp, hp_ne, nxr, Ne.symm nxr, ne_eq, not_false_eq_true, HH, zero13, lay, oneOr, List.take_succ_cons, List.take_zero, List.drop_succ_cons, List.drop_zero, List.nil_append, List.cons_append, Option.getD_some, Nat.reduceAdd, Nat.reduceLeDiff, List.append_nil, and_self, List.all_cons, List.all_nil])
  refine stk_pure (cut_ok L more spS (by omega)) fun v hv => ?_
  subst hv
  have hx2 : (cutT more spS).2.1.size ≤ more.size := (cutT_size more 32).2
  generalize (cutT more spS).1 = idt
  generalize (cutT more spS).2.1 = txt at hx2 ⊢
  generalize (cutT more spS).2.2 = is3
  (try simp +decide -implicitDefEqProofs only [go_sem, hp_self, hp_hp, hp_ne, nxr, Ne.symm nxr, ne_eq, not_false_eq_true, HH, zero13, lay, oneOr, List.take_succ_cons, List.take_zero, List.drop_succ_cons, List.drop_zero, List.nil_append, List.cons_append, Option.getD_some, Nat.reduceAdd, Nat.reduceLeDiff, List.append_nil, and_self, List.all_cons, List.all_nil])
  refine stk_pure (plain_ok L txt (by omega)) fun v hv => ?_
  subst hv
  rw [plainR_eq]
  generalize plainD txt = t
  (try simp +decide -implicitDefEqProofs only [go_sem, hp_self, hp_hp, hp_ne, nxr, Ne.symm nxr, ne_eq, not_false_eq_true, HH, zero13, lay, oneOr, List.take_succ_cons, List.take_zero, List.drop_succ_cons, List.drop_zero, List.nil_append, List.cons_append, Option.getD_some, Nat.reduceAdd, Nat.reduceLeDiff, List.append_nil, and_self, List.all_cons, List.all_nil])
  refine aretC_one (by (try simp +decide -implicitDefEqProofs only [go_sem, hp_self, hp_ne, nxr, Ne.symm nxr, ne_eq, not_false_eq_true, lay, oneOr, List.take_succ_cons, List.take_zero, List.drop_succ_cons, List.drop_zero, List.nil_append, List.cons_append, Option.getD_some, Nat.reduceAdd, Nat.reduceLeDiff, List.append_nil, and_self, List.all_cons, List.all_nil])) ?_
  (try simp +decide -implicitDefEqProofs only [go_sem, hp_self, hp_ne, nxr, Ne.symm nxr, ne_eq, not_false_eq_true, lay, oneOr, List.take_succ_cons, List.take_zero, List.drop_succ_cons, List.drop_zero, List.nil_append, List.cons_append, Option.getD_some, Nat.reduceAdd, Nat.reduceLeDiff, List.append_nil, and_self, List.all_cons, List.all_nil])
  exact ⟨.inr rfl, AHeap.none, _, Sub.none _, FZ.step0 _ _ _ _ _, rfl⟩
 rw [if_neg (by omega)]
 (try simp +decide -implicitDefEqProofs only [go_sem, h1, h2, h5, h6, h7, h8, h10, hp_self, hp_hp, hp_ne, nxr, Ne.symm nxr, ne_eq, not_false_eq_true, HH, zero13, lay, oneOr, List.take_succ_cons, List.take_zero, List.drop_succ_cons, List.drop_zero, List.nil_append, List.cons_append, Option.getD_some, Nat.reduceAdd, Nat.reduceLeDiff, List.append_nil, and_self, List.all_cons, List.all_nil])
 refine aretC_one (by (try simp +decide -implicitDefEqProofs only [go_sem, hp_self, hp_ne, nxr, Ne.symm nxr, ne_eq, not_false_eq_true, lay, oneOr, List.take_succ_cons, List.take_zero, List.drop_succ_cons, List.drop_zero, List.nil_append, List.cons_append, Option.getD_some, Nat.reduceAdd, Nat.reduceLeDiff, List.append_nil, and_self, List.all_cons, List.all_nil])) ?_
 (try simp +decide -implicitDefEqProofs only [go_sem, hp_self, hp_ne, nxr, Ne.symm nxr, ne_eq, not_false_eq_true, lay, oneOr, List.take_succ_cons, List.take_zero, List.drop_succ_cons, List.drop_zero, List.nil_append, List.cons_append, Option.getD_some, Nat.reduceAdd, Nat.reduceLeDiff, List.append_nil, and_self, List.all_cons, List.all_nil])
 exact ⟨.inr rfl, AHeap.none, _, Sub.none _, FZ.step0 _ _ _ _ _, rfl⟩
end Go.Proofs.YtfaodacmdlnabaaGreatDoor.M
