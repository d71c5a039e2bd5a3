/-
 Lines: steps as a script's text.
-/
import Derived.Test.YtfaodacmdlnabaaGreatDoorLe
namespace Go.Proofs.YtfaodacmdlnabaaGreatDoor.M
open Go.RowKit
set_option linter.unusedVariables false
set_option linter.unusedSimpArgs false
theorem stk_callW2 {P : Program} {W : World} {k : List Item} {Q : Exit → AState → Prop} {s : AState} {d : Option Nat} {f : FuncId} {xs : List Operand} {r : List AOper} {R : AVal → AHeap → Prop} (s1 : AState) (hw : Weak s s1) (h : ACalls P W f (xs.map (ev s1.tm)) s1.H R) (hk : ∀ v H', R v H' → stk P W (.ops r :: k) Q .normal ((⟨s1.tm, H'⟩ : AState).put d v)) : stk P W (.ops (⟨d, none, .e (.call f xs)⟩ :: r) :: k) Q .normal s :=
 ⟨s1, hw, ACalls.mono h hk⟩
def lnText : List Step → Option Str
 | [] => some ByteArray.empty
 | s :: r => match lnOf s with
  | none => none
  | some t => match lnText r with
   | none => none
   | some u => some (t ++ u)
theorem lnText_snoc (s : Step) : ∀ l : List Step, lnText (l ++ [s]) = match lnText l with
  | none => none
  | some u => match lnOf s with
   | none => none
   | some t => some (u ++ t)
 | [] => by
  rw [List.nil_append]
  simp only [lnText]
  cases lnOf s with
  | none => rfl
  | some t => simp [ByteArray.append_empty, ByteArray.empty_append]
 | q :: l => by
  rw [List.cons_append, lnText, lnText_snoc s l, lnText]
  cases lnOf q with
  | none => rfl
  | some t =>
   dsimp only
   cases lnText l with
   | none => rfl
   | some u =>
    dsimp only
    cases lnOf s with
    | none => rfl
    | some v => simp [ByteArray.append_assoc]
theorem lnText_none : ∀ {l : List Step} {s : Step}, s ∈ l → lnOf s = none → lnText l = none
 | q :: l, s, h, hp => by
  rw [lnText]
  rcases List.mem_cons.1 h with rfl | h
  ·rw [hp]
  ·cases lnOf q with
   | none => rfl
   | some t => rw [lnText_none h hp]
def lnTextR : Option Str → AVal
 | none => .tup [.v (.string ByteArray.empty), .v (.int .i64 2)]
 | some t => .tup [.v (.string t), .v (.int .i64 0)]
theorem stepRows_get {l : List Step} {i : Nat} (h : i < l.length) : (l.map stepCells).getD i [] = stepCells l[i] := by simp [h]
theorem sub_put {H : AHeap} {g : Nat} {o : AObj} (h : H g = none) : Sub H (H.put g o) := fun b o' hb => by
 rw [hp_ne _ _ (fun e => by rw [e, h] at hb; cases hb)]; exact hb
def c_lnText : AFn := ⟨1, 26, [2, 3],
 .seq (.ops [oq 2 (.mv (.const (.string ByteArray.empty))),
   oq 3 (.mv (.const (.int .i64 0)))])
 (.seq (.ops [oe 4 (.alloc 45 [(.pointer none), (.slice none 0 0)])])
 (.seq (.seq (.ops [oq 9 (.mv (.tmp 0)),
   oq 10 (.len false (.tmp 9)),
   oq 11 (.mv (.const (.int .i64 0)))])
 (.block 0 (.loop (.seq (.ops [oq 12 (.bin .lss .num (.tmp 11) (.tmp 10))])
   (.seq (.cond (.tmp 12)
    (.skip)
    (.exit 0))
   (.seq (.block 1 (.seq (.ops [oq 13 (.ixa 14 (.tmp 9) (.tmp 11)),
      oq 14 (.ld true 14 (.tmp 13)),
      oe 6 (.alloc 38 [(.int .i64 0), (.int .i64 0), (.int .i64 0), (.string ByteArray.empty), (.string ByteArray.empty), (.int .i64 0), (.slice none 0 0), (.slice none 0 0), (.slice none 0 0), (.slice none 0 0), (.slice none 0 0), (.int .i64 0), (.int .i64 0), (.int .i64 0)]),
      on (.st 14 (.tmp 6) (.tmp 14))])
    (.seq (.ops [oq 16 (.ld true 14 (.tmp 6)),
      oe 17 (.call 17 [(.tmp 16)]),
      oq 15 (.mv (.tmp 17)),
      oq 18 (.ext (.tmp 15) 0),
      oq 19 (.ext (.tmp 15) 1),
      oq 7 (.mv (.tmp 18)),
      oq 8 (.mv (.tmp 19))])
    (.seq (.seq (.ops [oq 20 (.mv (.tmp 8)),
      oq 21 (.un .not (.tmp 20))])
    (.cond (.tmp 21)
     (.seq (.ops [oq 2 (.mv (.const (.string ByteArray.empty))),
       oq 3 (.mv (.const (.int .i64 2)))])
     (.ret))
     (.skip)))
    (.ops [oq 22 (.mv (.tmp 7)),
      oe 23 (.call 18 [(.tmp 4), (.tmp 22)])])))))
   (.ops [oq 24 (.bin .add .num (.tmp 11) (.const (.int .i64 1))),
     oq 11 (.mv (.tmp 24))])))))))
 (.seq (.ops [oe 25 (.call 19 [(.tmp 4)]),
   oq 2 (.mv (.tmp 25)),
   oq 3 (.mv (.const (.int .i64 0)))])
 (.ret)))), []⟩
theorem k_lnText : compF Tryz.prog 10 = some c_lnText := by kernel_rfl
set_option maxHeartbeats 4000000 in
theorem lnText_ok {W : World} (L : Laid W) (f : Bool) (ls : List Step) (hn : ls.length ≤ 10000) (F : ∀ s ∈ ls, StepFits s) (Z : ∀ s ∈ ls, ∀ t, lnOf s = some t → t.size ≤ 10000000) : ACalls Tryz.prog W 10 [.sl f 14 (ls.map stepCells)] AHeap.none fun v _ => v = lnTextR (lnText ls) := by
 refine fn_run follows k_lnText rfl ?_
 simp only [oq, og, oe, oh, on, c_lnText, aretC_nil, List.zipIdx_cons, List.zipIdx_nil, List.map_cons, List.map_nil, Nat.zero_add]
 have hlen : (ls.map stepCells).length = ls.length := by simp
 (try simp +decide -implicitDefEqProofs only [go_sem, hlen])
 rw [stk_alloc]
 intro b hb
 (try simp +decide -implicitDefEqProofs only [go_sem, hlen])
 refine stk_up (α := Str × AHeap) ls.length (fun i a => ⟨[(11, .v (.int .i64 i)), (10, .v (.int .i64 ls.length)), (9, .sl f 14 (ls.map stepCells)), (4, .v (.pointer (some ⟨b, 0, none⟩)))], a.2⟩) (fun i a => BuildH a.2 b a.1 ∧ lnText (ls.take i) = some a.1 ∧ a.1.size ≤ i * 10000000) (ByteArray.empty, _) (Weak.list _ (Sub.refl _) (by (try simp +decide -implicitDefEqProofs only [go_sem, hlen]))) ⟨⟨none, _, hp_self _ _ _, .inl rfl, .nil⟩, rfl, Nat.zero_le _⟩ ?_
 rintro i ⟨t, H⟩ hi ⟨hB, ht, hz⟩
 dsimp only at hB ht hz ⊢
 by_cases hlt : i < ls.length
 ·have g1 : (i : Int) < (ls.length : Int) := by omega
  have hw := wrap_in (n := (i : Int) + 1) (by omega) (by omega)
  have hgt := stepRows_get hlt
  have hmem : ls[i] ∈ ls := List.getElem_mem hlt
  have hF := F _ hmem
  have hZ := Z _ hmem
  have hstep : ∀ u, lnOf ls[i] = some u → lnText (ls.take (i + 1)) = some (t ++ u) := fun u hu => by
   rw [List.take_succ_eq_append_getElem hlt, lnText_snoc, ht]
   dsimp only
   rw [hu]
  have hnone : lnOf ls[i] = none → AVal.tup [.v (.string ByteArray.empty), .v (.int .i64 2)] = lnTextR (lnText ls) := fun h => by
   rw [lnText_none hmem h]; rfl
  generalize ls[i] = s at hgt hF hZ hstep hnone
  (try simp +decide -implicitDefEqProofs only [go_sem, g1, hlen, hlt, hgt, stepCells, polCells, lay, oneOr, List.take_succ_cons, List.take_zero, List.drop_succ_cons, List.drop_zero, List.nil_append, List.cons_append, Option.getD_some, Nat.reduceAdd, Nat.reduceLeDiff, List.append_nil, and_self, List.all_cons, List.all_nil])
  rw [stk_alloc]
  intro g hg
  (try simp +decide -implicitDefEqProofs only [go_sem, hp_self, lay, oneOr, List.take_succ_cons, List.take_zero, List.drop_succ_cons, List.drop_zero, List.nil_append, List.cons_append, Option.getD_some, Nat.reduceAdd, Nat.reduceLeDiff, List.append_nil, and_self, List.all_cons, List.all_nil])
  refine stk_pure (lineOf_ok L s hF) fun v hv => ?_
  obtain ⟨u, rfl, hu⟩ := hv
  cases hl : lnOf s with
  | none =>
   (try simp +decide -implicitDefEqProofs only [go_sem, Option.isSome])
   refine aret_pure (.inr rfl) ?_; simp +decide only [retOf, tget, if_true, if_false, ↓reduceIte, List.map_cons, List.map_nil]
   exact hnone hl
  | some u' =>
   obtain rfl := hu u' hl
   (try simp +decide -implicitDefEqProofs only [go_sem, Option.isSome])
   refine stk_callW2 ⟨[(22, .v (.string u)), (11, .v (.int .i64 i)), (10, .v (.int .i64 ls.length)), (9, .sl f 14 (ls.map stepCells)), (4, .v (.pointer (some ⟨b, 0, none⟩)))], H⟩ (Weak.list _ ?_ (by (try simp +decide -implicitDefEqProofs only [go_sem]))) (write_ok (s := u) hB (by have := hZ u hl; omega)) fun v H' hv => ?_
   ·first | exact sub_put hg | (rw [hp_hp]; exact sub_put hg)
   (try simp +decide -implicitDefEqProofs only [go_sem, hw])
   refine ⟨(t ++ u, H'), Weak.list _ (Sub.refl _) (by (try simp +decide -implicitDefEqProofs only [go_sem])), hv, hstep u hl, ?_⟩
   have := hZ u hl
   rw [ByteArray.size_append]; omega
 ·have g1 : ¬ (i : Int) < (ls.length : Int) := by omega
  rw [List.take_of_length_le (by omega)] at ht
  (try simp +decide -implicitDefEqProofs only [go_sem, g1])
  refine stk_call (bstrA_ok hB) fun v H' hv => ?_
  subst hv
  (try simp +decide -implicitDefEqProofs only [go_sem])
  refine aret_pure (.inr rfl) ?_; simp +decide only [retOf, tget, if_true, if_false, ↓reduceIte, List.map_cons, List.map_nil]
  rw [ht]; rfl
end Go.Proofs.YtfaodacmdlnabaaGreatDoor.M
