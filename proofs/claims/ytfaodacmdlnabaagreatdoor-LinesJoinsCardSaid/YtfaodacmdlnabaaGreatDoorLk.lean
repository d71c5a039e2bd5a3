/-
 Lines: two scripts' texts, one behind the other: the statement, walked, as far as it is awake.
-/
import Derived.Test.YtfaodacmdlnabaaGreatDoorLj
namespace Go.Proofs.YtfaodacmdlnabaaGreatDoor.M
open Go.RowKit
set_option linter.unusedVariables false
set_option linter.unusedSimpArgs false
def Awake (W : World) : Prop := ACalls Tryz.prog W 8 [] AHeap.none fun v _ => v = .v (.bool true)
def c_lnJoins : AFn := ⟨2, 80, [4],
 .seq (.ops [oq 4 (.mv (.const (.bool false)))])
 (.seq (.ops [oe 16 (.call 8 []),
   oq 5 (.mv (.tmp 16))])
 (.seq (.seq (.ops [oq 17 (.mv (.tmp 0)),
   oq 18 (.len true (.tmp 17)),
   oq 19 (.bin .gtr .num (.tmp 18) (.const (.int .i64 3000))),
   oq 20 (.mv (.tmp 19)),
   og 21 20 false (.mv (.tmp 1)),
   og 22 20 false (.len true (.tmp 21)),
   og 23 20 false (.bin .gtr .num (.tmp 22) (.const (.int .i64 3000))),
   oq 24 (.pick (.tmp 20) (.const (.bool true)) (.tmp 23))])
 (.cond (.tmp 24)
  (.seq (.ops [oq 25 (.mv (.tmp 5)),
    oq 4 (.mv (.tmp 25))])
  (.ret))
  (.skip)))
 (.seq (.ops [oq 27 (.mv (.tmp 0)),
   oe 28 (.call 11 [(.tmp 27)]),
   oq 26 (.mv (.tmp 28)),
   oq 29 (.ext (.tmp 26) 0),
   oq 30 (.ext (.tmp 26) 1),
   oq 31 (.ext (.tmp 26) 2),
   oq 6 (.mv (.tmp 29)),
   oq 7 (.mv (.tmp 30)),
   oq 8 (.mv (.tmp 31))])
 (.seq (.ops [oq 33 (.mv (.tmp 1)),
   oe 34 (.call 11 [(.tmp 33)]),
   oq 32 (.mv (.tmp 34)),
   oq 35 (.ext (.tmp 32) 0),
   oq 36 (.ext (.tmp 32) 1),
   oq 37 (.ext (.tmp 32) 2),
   oq 9 (.mv (.tmp 35)),
   oq 10 (.mv (.tmp 36)),
   oq 11 (.mv (.tmp 37))])
 (.seq (.ops [oq 39 (.mv (.tmp 0)),
   oq 40 (.mv (.tmp 1)),
   oq 41 (.bin .add .num (.tmp 39) (.tmp 40)),
   oe 42 (.call 11 [(.tmp 41)]),
   oq 38 (.mv (.tmp 42)),
   oq 43 (.ext (.tmp 38) 0),
   oq 44 (.ext (.tmp 38) 1),
   oq 45 (.ext (.tmp 38) 2),
   oq 12 (.mv (.tmp 43)),
   oq 13 (.mv (.tmp 44)),
   oq 14 (.mv (.tmp 45))])
 (.seq (.seq (.ops [oq 46 (.mv (.tmp 7)),
   oq 47 (.bin .neq .num (.tmp 46) (.const (.int .i64 0)))])
 (.cond (.tmp 47)
  (.seq (.ops [oq 48 (.mv (.tmp 5)),
    oq 4 (.mv (.tmp 48))])
  (.ret))
  (.skip)))
 (.seq (.seq (.ops [oq 49 (.mv (.tmp 10)),
   oq 50 (.bin .neq .num (.tmp 49) (.const (.int .i64 0)))])
 (.cond (.tmp 50)
  (.seq (.ops [oq 51 (.mv (.tmp 5)),
    oq 52 (.mv (.tmp 51)),
    og 53 52 true (.mv (.tmp 13)),
    og 54 52 true (.mv (.tmp 10)),
    og 55 52 true (.bin .eql .num (.tmp 53) (.tmp 54)),
    oq 56 (.pick (.tmp 52) (.tmp 55) (.const (.bool false))),
    oq 57 (.mv (.tmp 56)),
    og 58 57 true (.mv (.tmp 14)),
    og 59 57 true (.mv (.tmp 11)),
    og 60 57 true (.mv (.tmp 6)),
    og 61 57 true (.len false (.tmp 60)),
    og 62 57 true (.bin .add .num (.tmp 59) (.tmp 61)),
    og 63 57 true (.bin .eql .num (.tmp 58) (.tmp 62)),
    oq 64 (.pick (.tmp 57) (.tmp 63) (.const (.bool false))),
    oq 4 (.mv (.tmp 64))])
  (.ret))
  (.skip)))
 (.seq (.ops [oq 65 (.mv (.tmp 12)),
   oe 66 (.bsl 38 14 []),
   oq 67 (.mv (.tmp 6)),
   oe 68 (.app 38 14 208 false (.tmp 66) (.tmp 67)),
   oq 69 (.mv (.tmp 9)),
   oe 70 (.app 38 14 208 false (.tmp 68) (.tmp 69)),
   oe 71 (.call 12 [(.tmp 65), (.tmp 70)]),
   oq 15 (.mv (.tmp 71))])
 (.seq (.ops [oq 72 (.mv (.tmp 5)),
   oq 73 (.mv (.tmp 72)),
   og 74 73 true (.mv (.tmp 13)),
   og 75 73 true (.bin .eql .num (.tmp 74) (.const (.int .i64 0))),
   oq 76 (.pick (.tmp 73) (.tmp 75) (.const (.bool false))),
   oq 77 (.mv (.tmp 76)),
   og 78 77 true (.mv (.tmp 15)),
   oq 79 (.pick (.tmp 77) (.tmp 78) (.const (.bool false))),
   oq 4 (.mv (.tmp 79))])
 (.ret)))))))))), []⟩
theorem k_lnJoins : compF Tryz.prog 4 = some c_lnJoins := by kernel_rfl
set_option maxHeartbeats 8000000 in
theorem joins_law {W : World} (L : Laid W) (E : Errs W) (hA : Awake W) (a b : Str) : ACalls Tryz.prog W 4 [.v (.string a), .v (.string b)] AHeap.none fun v _ => v = .v (.bool true) := by
 unfold Awake at hA
 refine fn_run follows k_lnJoins rfl ?_
 simp only [oq, og, oe, oh, on, c_lnJoins, aretC_nil, List.zipIdx_cons, List.zipIdx_nil, List.map_cons, List.map_nil, Nat.zero_add]
 (try simp +decide -implicitDefEqProofs only [go_sem])
 refine stk_pure hA fun v hv => ?_
 subst hv
 by_cases ha : (a.size : Int) > 3000
 ·(try simp +decide -implicitDefEqProofs only [go_sem, ha])
  refine aret_pure (.inr rfl) ?_; simp +decide only [retOf, tget, if_true, if_false, ↓reduceIte, List.map_cons, List.map_nil]
 by_cases hb : (b.size : Int) > 3000
 ·(try simp +decide -implicitDefEqProofs only [go_sem, ha, hb])
  refine aret_pure (.inr rfl) ?_; simp +decide only [retOf, tget, if_true, if_false, ↓reduceIte, List.map_cons, List.map_nil]
 (try simp +decide -implicitDefEqProofs only [go_sem, ha, hb])
 have hOa := lnOk_small (s := a) (by omega)
 have hOb := lnOk_small (s := b) (by omega)
 have hsab : (a ++ b).size = a.size + b.size := ByteArray.size_append
 have hOab := lnOk_small (s := a ++ b) (by omega)
 refine stk_pure (parse_ok L E a (by omega) hOa) fun v hv => ?_
 subst hv
 cases hpa : parseS lnStep (bl a) with
 | error k =>
  unfold parseV
  (try simp +decide -implicitDefEqProofs only [go_sem])
  refine stk_pure (parse_ok L E b (by omega) hOb) fun v hv => ?_
  subst hv
  have s1 : a.size + b.size ≤ 9223372036854775807 := by omega
  cases hpb : parseS lnStep (bl b)
  all_goals (
   unfold parseV
   (try simp +decide -implicitDefEqProofs only [go_sem, s1])
   refine stk_pure (parse_ok L E (a ++ b) (by omega) hOab) fun v hv => ?_
   subst hv
   cases hpc : parseS lnStep (bl (a ++ b))
   all_goals (
    unfold parseV
    (try simp +decide -implicitDefEqProofs only [go_sem])
    refine aret_pure (.inr rfl) ?_; simp +decide only [retOf, tget, if_true, if_false, ↓reduceIte, List.map_cons, List.map_nil]))
 | ok l =>
  have hFa := parse_fits (s := a) (by omega) hOa hpa
  have hboth := parse_both lnStep (b := bl b) hpa
  rw [← bl_app] at hboth
  unfold parseV
  (try simp +decide -implicitDefEqProofs only [go_sem])
  refine stk_pure (parse_ok L E b (by omega) hOb) fun v hv => ?_
  subst hv
  have s1 : a.size + b.size ≤ 9223372036854775807 := by omega
  cases hpb : parseS lnStep (bl b) with
  | error k =>
   rw [hpb] at hboth
   unfold parseV
   (try simp +decide -implicitDefEqProofs only [go_sem, s1])
   refine stk_pure (parse_ok L E (a ++ b) (by omega) hOab) fun v hv => ?_
   subst hv
   rw [hboth]
   unfold parseV
   have hlm : (l.map stepCells).length = l.length := by simp
   have hk := parse_bad lnStep _ _ _ _ hpb
   rw [bl_len] at hk
   have hll := hFa.2
   simp only [List.length_nil, Nat.zero_add] at hk
   have hw := wrap_in (n := (k : Int) + (l.length : Int)) (by omega) (by omega)
   (try simp +decide -implicitDefEqProofs only [go_sem, hlm, hw])
   refine aret_pure (.inr rfl) ?_; simp +decide only [retOf, tget, if_true, if_false, ↓reduceIte, List.map_cons, List.map_nil]
   rw [decide_eq_true (by omega)]
  | ok m =>
   have hFb := parse_fits (s := b) (by omega) hOb hpb
   rw [hpb] at hboth
   unfold parseV
   (try simp +decide -implicitDefEqProofs only [go_sem, s1])
   refine stk_pure (parse_ok L E (a ++ b) (by omega) hOab) fun v hv => ?_
   subst hv
   rw [hboth]
   unfold parseV
   have hll := hFa.2
   have hmm := hFb.2
   (try simp +decide -implicitDefEqProofs only [go_sem])
   refine stk_app (rows := []) (Row.sl _) (by rfl) (by simp only [List.length_map, List.length_nil]; omega) fun x1 H1 hr1 _ => ?_
   (try simp +decide -implicitDefEqProofs only [go_sem])
   refine stk_app (rows := [] ++ l.map stepCells) hr1 (by rfl) (by simp only [List.length_append, List.length_map, List.length_nil]; omega) fun x2 H2 hr2 _ => ?_
   have hr3 : Row H2 tStep 14 x2 ((l ++ m).map stepCells) := by rw [List.map_append]; exact hr2
   (try simp +decide -implicitDefEqProofs only [go_sem])
   refine stk_pureW ⟨[(65, .sl false 14 ((l ++ m).map stepCells)), (70, .sl false 14 ((l ++ m).map stepCells)), (13, .v (.int .i64 0)), (5, .v (.bool true))], AHeap.none⟩ (Weak.list _ (Sub.none _) ?_) (lnSame_ok (l ++ m) (l ++ m) (by simp; omega) (by simp; omega) (fun x hx => ?_) (fun x hx => ?_)) fun v hv => ?_
   ·(try simp +decide -implicitDefEqProofs only [go_sem])
    first | exact hr3.fz (stepGood _) (fun b _ => rfl) | exact ⟨FZ.refl _, hr3.fz (stepGood _) (fun b _ => rfl)⟩
   ·rcases List.mem_append.1 hx with h | h
    ·exact (hFa.1 x h).2.lens9
    ·exact (hFb.1 x h).2.lens9
   ·rcases List.mem_append.1 hx with h | h
    ·exact (hFa.1 x h).2.lens9
    ·exact (hFb.1 x h).2.lens9
   subst hv
   rw [decide_eq_true rfl]
   (try simp +decide -implicitDefEqProofs only [go_sem])
   refine aret_pure (.inr rfl) ?_; simp +decide only [retOf, tget, if_true, if_false, ↓reduceIte, List.map_cons, List.map_nil]
end Go.Proofs.YtfaodacmdlnabaaGreatDoor.M
