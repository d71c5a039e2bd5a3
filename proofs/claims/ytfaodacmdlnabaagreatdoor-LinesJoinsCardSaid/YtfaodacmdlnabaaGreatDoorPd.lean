/-
 Which policies may be; what one lets; whether one is stricter than another: walked.
-/
import Derived.Test.YtfaodacmdlnabaaGreatDoorPc
namespace Go.Proofs.YtfaodacmdlnabaaGreatDoor.M
open Go.RowKit
set_option linter.unusedVariables false
set_option linter.unusedSimpArgs false
theorem steq3 (a b c x y z : Int) : steq [0, 0, 0] (.agg [.v (.int .i64 a), .v (.int .i64 b), .v (.int .i64 c)]) (.agg [.v (.int .i64 x), .v (.int .i64 y), .v (.int .i64 z)]) = some (decide (a = x) && (decide (b = y) && decide (c = z))) := by simp [steq, isAggA, flatEq, flat1, aggA]
def fitI (most n : Int) : Int := min (max n 1) most
def capsP (p : Pol) : Bool := decide (p.depth = fitI 64 p.depth) && (decide (p.nodes = fitI 2000 p.nodes) && decide (p.bytes = fitI 16384 p.bytes))
/-- What is asked of a policy's lists ahead of all walks: they are not too long. -/
structure Fits (p : Pol) : Prop where
 elems : p.elems.length ≤ 20000
 attrs : p.attrs.length ≤ 20000
 schemes : p.schemes.length ≤ 20000
 classes : p.classes.length ≤ 20000
 props : p.props.length ≤ 20000
 all : ∀ l, l ∈ [p.elems, p.attrs, p.schemes, p.classes, p.props] → ∀ s ∈ l, s.size ≤ 20000
theorem cut_le (s : Str) : (cutT s dotS).2.1.size ≤ s.size := by
 have h : ∀ (a b : List UInt8), (Lib.cut a b).2.1.length ≤ a.length := fun a b => by
  unfold Lib.cut
  split
  ·simp
  ·simp
 have := h s.data.toList dotS.data.toList
 exact this
theorem FZ.cellsR {H H' : AHeap} {b E : Nat} {cs : List AVal} (hb : H b = some (.cells E cs)) (hf : H' b = none) : FZ H H' (.v (.pointer (some ⟨b, 0, none⟩))) (.pl cs) := .cells hb hf rfl fun _ _ _ => .refl _
theorem FZ.cell1 {H H' : AHeap} {b E : Nat} {x y : AVal} (hb : H b = some (.cells E [x])) (hf : H' b = none) (h : FZ H H' x y) : FZ H H' (.v (.pointer (some ⟨b, 0, none⟩))) (.pl [y]) := .cells hb hf rfl fun j hj hj' => by
 obtain rfl : j = 0 := by simp at hj; omega
 exact h
theorem FZ.fn1 {H H' : AHeap} {f : FuncId} {x y : AVal} (h : FZ H H' x y) : FZ H H' (.fn f [x]) (.fn f [y]) := .fn rfl fun j hj hj' => by
 obtain rfl : j = 0 := by simp at hj; omega
 exact h
def liP (elems : List Str) : Bool := !decide ((⟨#[108, 105]⟩ : ByteArray) ∈ elems) || (decide ((⟨#[117, 108]⟩ : ByteArray) ∈ elems) && decide ((⟨#[111, 108]⟩ : ByteArray) ∈ elems))
def elP (s : Str) : Bool := wordP s && !neverP s
def rightP (p : Pol) : Bool :=
 !(decide (p.epoch < 1) || (decide (1000000 < p.epoch) || !capsP p)) &&
 (listP p.elems elP && (listP p.attrs (attrsP p.elems) && (listP p.schemes schemeP && (listP p.classes wordP && (listP p.props wordP && liP p.elems)))))
def c_Right : AFn := ⟨1, 83, [2],
 .seq (.ops [oe 1 (.box 36 (.tmp 0)),
   oq 2 (.mv (.const (.bool false)))])
 (.seq (.ops [oq 9 (.fad 6 1 (.tmp 1)),
   oq 10 (.ld false 1 (.tmp 9)),
   oq 11 (.fad 7 1 (.tmp 1)),
   oq 12 (.ld false 1 (.tmp 11)),
   oq 13 (.fad 8 1 (.tmp 1)),
   oq 14 (.ld false 1 (.tmp 13)),
   oq 15 (.bld [(.int .i64 0), (.int .i64 0), (.int .i64 0)] [(0, 1, (.tmp 10)), (1, 1, (.tmp 12)), (2, 1, (.tmp 14))]),
   oe 3 (.alloc 141 [(.int .i64 0), (.int .i64 0), (.int .i64 0)]),
   on (.st 3 (.tmp 3) (.tmp 15))])
 (.seq (.ops [oq 16 (.fad 6 1 (.tmp 1)),
   oq 17 (.ld false 1 (.tmp 16)),
   oq 18 (.mm true (.tmp 17) (.const (.int .i64 1))),
   oq 19 (.mm false (.tmp 18) (.const (.int .i64 64))),
   oq 20 (.fad 7 1 (.tmp 1)),
   oq 21 (.ld false 1 (.tmp 20)),
   oq 22 (.mm true (.tmp 21) (.const (.int .i64 1))),
   oq 23 (.mm false (.tmp 22) (.const (.int .i64 2000))),
   oq 24 (.fad 8 1 (.tmp 1)),
   oq 25 (.ld false 1 (.tmp 24)),
   oq 26 (.mm true (.tmp 25) (.const (.int .i64 1))),
   oq 27 (.mm false (.tmp 26) (.const (.int .i64 16384))),
   oq 28 (.bld [(.int .i64 0), (.int .i64 0), (.int .i64 0)] [(0, 1, (.tmp 19)), (1, 1, (.tmp 23)), (2, 1, (.tmp 27))]),
   oe 4 (.alloc 141 [(.int .i64 0), (.int .i64 0), (.int .i64 0)]),
   on (.st 3 (.tmp 4) (.tmp 28))])
 (.seq (.seq (.ops [oq 29 (.fad 0 1 (.tmp 1)),
   oq 30 (.ld false 1 (.tmp 29)),
   oq 31 (.bin .lss .num (.tmp 30) (.const (.int .i64 1))),
   oq 32 (.mv (.tmp 31)),
   og 33 32 false (.fad 0 1 (.tmp 1)),
   og 34 32 false (.ld false 1 (.tmp 33)),
   og 35 32 false (.bin .gtr .num (.tmp 34) (.const (.int .i64 1000000))),
   oq 36 (.pick (.tmp 32) (.const (.bool true)) (.tmp 35)),
   oq 37 (.mv (.tmp 36)),
   og 38 37 false (.ld true 3 (.tmp 3)),
   og 39 37 false (.ld true 3 (.tmp 4)),
   og 40 37 false (.bin .neq (.struct [0, 0, 0]) (.tmp 38) (.tmp 39)),
   oq 41 (.pick (.tmp 37) (.const (.bool true)) (.tmp 40))])
 (.cond (.tmp 41)
  (.seq (.ops [oq 2 (.mv (.const (.bool false)))])
  (.ret))
  (.skip)))
 (.seq (.ops [oq 42 (.mkf 96 [(.tmp 1)]),
   oe 5 (.alloc 33 [.nilFunc]),
   on (.st 1 (.tmp 5) (.tmp 42))])
 (.seq (.ops [oq 43 (.fad 1 1 (.tmp 1)),
   oq 44 (.ld false 1 (.tmp 43)),
   oe 45 (.call 98 [(.tmp 44), (.func 99)]),
   oq 6 (.mv (.tmp 45))])
 (.seq (.ops [oq 46 (.fad 2 1 (.tmp 1)),
   oq 47 (.ld false 1 (.tmp 46)),
   oq 48 (.mkf 102 [(.tmp 5)]),
   oe 49 (.call 98 [(.tmp 47), (.tmp 48)]),
   oq 7 (.mv (.tmp 49))])
 (.seq (.ops [oq 50 (.fad 3 1 (.tmp 1)),
   oq 51 (.ld false 1 (.tmp 50)),
   oe 52 (.call 98 [(.tmp 51), (.func 104)]),
   oq 8 (.mv (.tmp 52))])
 (.seq (.ops [oq 53 (.mv (.tmp 6)),
   oq 54 (.mv (.tmp 53)),
   og 55 54 true (.mv (.tmp 7)),
   oq 56 (.pick (.tmp 54) (.tmp 55) (.const (.bool false))),
   oq 57 (.mv (.tmp 56)),
   og 58 57 true (.mv (.tmp 8)),
   oq 59 (.pick (.tmp 57) (.tmp 58) (.const (.bool false))),
   oq 60 (.mv (.tmp 59)),
   og 61 60 true (.fad 4 1 (.tmp 1)),
   og 62 60 true (.ld false 1 (.tmp 61)),
   oh 63 60 true (.call 98 [(.tmp 62), (.func 100)]),
   oq 64 (.pick (.tmp 60) (.tmp 63) (.const (.bool false))),
   oq 65 (.mv (.tmp 64)),
   og 66 65 true (.fad 5 1 (.tmp 1)),
   og 67 65 true (.ld false 1 (.tmp 66)),
   oh 68 65 true (.call 98 [(.tmp 67), (.func 100)]),
   oq 69 (.pick (.tmp 65) (.tmp 68) (.const (.bool false))),
   oq 70 (.mv (.tmp 69)),
   og 71 70 true (.ld false 1 (.tmp 5)),
   oh 72 70 true (.callv (.tmp 71) [(.const (.string ⟨#[108, 105]⟩))]),
   og 73 70 true (.un .not (.tmp 72)),
   og 74 70 true (.mv (.tmp 73)),
   og 75 74 false (.ld false 1 (.tmp 5)),
   oh 76 74 false (.callv (.tmp 75) [(.const (.string ⟨#[117, 108]⟩))]),
   og 77 74 false (.mv (.tmp 76)),
   og 78 77 true (.ld false 1 (.tmp 5)),
   oh 79 77 true (.callv (.tmp 78) [(.const (.string ⟨#[111, 108]⟩))]),
   og 80 74 false (.pick (.tmp 77) (.tmp 79) (.const (.bool false))),
   og 81 70 true (.pick (.tmp 74) (.const (.bool true)) (.tmp 80)),
   oq 82 (.pick (.tmp 70) (.tmp 81) (.const (.bool false))),
   oq 2 (.mv (.tmp 82))])
 (.ret))))))))), []⟩
theorem k_Right : compF Tryz.prog 61 = some c_Right := by kernel_rfl
set_option maxHeartbeats 8000000 in
theorem right_ok {W : World} (L : Laid W) (p : Pol) (F : Fits p) : ACalls Tryz.prog W 61 [.agg (polCells p)] AHeap.none fun v _ => v = .v (.bool (rightP p)) := by
 have F1 := F.elems
 have F2 := F.attrs
 have F3 := F.schemes
 have F4 := F.classes
 have F5 := F.props
 have l1 := fun s (hs : s ∈ p.elems) => right2_ok (W := W) s (by have := F.all _ (by simp) s (hs); omega)
 have l2 := fun s (hs : s ∈ p.attrs) => right3_ok (W := W) L p s (by have := F.elems; omega) (by have := F.all _ (by simp) s (hs); omega) (by have := F.all _ (by simp) s (hs); have := cut_le s; omega)
 have l3 := fun s (hs : s ∈ p.schemes) => right4_ok (W := W) s (by have := F.all _ (by simp) s (hs); omega)
 have l4 := fun s (hs : s ∈ p.classes) => word_ok (W := W) s (by have := F.all _ (by simp) s (hs); omega)
 have l5 := fun s (hs : s ∈ p.props) => word_ok (W := W) s (by have := F.all _ (by simp) s (hs); omega)
 have hcap : capsP p = (decide (p.depth = min (max p.depth 1) 64) && (decide (p.nodes = min (max p.nodes 1) 2000) && decide (p.bytes = min (max p.bytes 1) 16384))) := rfl
 unfold rightP
 refine fn_run follows k_Right rfl ?_
 simp only [oq, og, oe, oh, on, c_Right, aretC_nil, List.zipIdx_cons, List.zipIdx_nil, List.map_cons, List.map_nil, Nat.zero_add]
 (try simp +decide -implicitDefEqProofs only [go_sem])
 rw [stk_box]
 refine ⟨by rfl, fun b1 h1 => ?_⟩
 (try simp +decide -implicitDefEqProofs only [go_sem, polCells, lay, oneOr, List.take_succ_cons, List.take_zero, List.drop_succ_cons, List.drop_zero, List.nil_append, List.cons_append, Option.getD_some, Nat.reduceAdd, Nat.reduceLeDiff, List.append_nil, and_self, List.all_cons, List.all_nil])
 rw [stk_alloc]
 intro b2 h2
 have n2 := new_ne (hp_self _ _ _) h2
 have n2' := n2.symm
 (try simp +decide -implicitDefEqProofs only [go_sem, hp_ne, n2, n2', ne_eq, not_false_eq_true, lay, oneOr, List.take_succ_cons, List.take_zero, List.drop_succ_cons, List.drop_zero, List.nil_append, List.cons_append, Option.getD_some, Nat.reduceAdd, Nat.reduceLeDiff, List.append_nil, and_self, List.all_cons, List.all_nil])
 rw [stk_alloc]
 intro b3 h3
 have n3 := new_ne (hp_self _ _ _) h3
 have n3' := n3.symm
 have m3 := new_ne (g := b1) ((hp_ne _ _ n2').trans (hp_self _ _ _)) h3
 have m3' := m3.symm
 by_cases e1 : p.epoch < 1
 ·rw [decide_eq_true e1]
  (try simp +decide -implicitDefEqProofs only [go_sem, hp_ne, n2, n2', n3, n3', m3, m3', e1, ne_eq, not_false_eq_true, lay, oneOr, List.take_succ_cons, List.take_zero, List.drop_succ_cons, List.drop_zero, List.nil_append, List.cons_append, Option.getD_some, Nat.reduceAdd, Nat.reduceLeDiff, List.append_nil, and_self, List.all_cons, List.all_nil])
  refine aret_pure (.inr rfl) ?_; simp +decide only [retOf, tget, if_true, if_false, ↓reduceIte, List.map_cons, List.map_nil]
  try rfl
 by_cases e2 : 1000000 < p.epoch
 ·rw [decide_eq_true e2]
  (try simp +decide -implicitDefEqProofs only [go_sem, hp_ne, n2, n2', n3, n3', m3, m3', e1, e2, ne_eq, not_false_eq_true, lay, oneOr, List.take_succ_cons, List.take_zero, List.drop_succ_cons, List.drop_zero, List.nil_append, List.cons_append, Option.getD_some, Nat.reduceAdd, Nat.reduceLeDiff, List.append_nil, and_self, List.all_cons, List.all_nil])
  refine aret_pure (.inr rfl) ?_; simp +decide only [retOf, tget, if_true, if_false, ↓reduceIte, List.map_cons, List.map_nil]
  try simp
 cases hc : capsP p
 ·rw [hcap] at hc
  (try simp +decide -implicitDefEqProofs only [go_sem, hp_ne, n2, n2', n3, n3', m3, m3', e1, e2, hc, steq3, Option.getD_some, ne_eq, not_false_eq_true, lay, oneOr, List.take_succ_cons, List.take_zero, List.drop_succ_cons, List.drop_zero, List.nil_append, List.cons_append, Option.getD_some, Nat.reduceAdd, Nat.reduceLeDiff, List.append_nil, and_self, List.all_cons, List.all_nil])
  refine aret_pure (.inr rfl) ?_; simp +decide only [retOf, tget, if_true, if_false, ↓reduceIte, List.map_cons, List.map_nil]
  try simp
 rw [decide_eq_false e1, decide_eq_false e2]
 rw [hcap] at hc
 (try simp +decide -implicitDefEqProofs only [go_sem, hp_ne, n2, n2', n3, n3', m3, m3', e1, e2, hc, steq3, Option.getD_some, ne_eq, not_false_eq_true, lay, oneOr, List.take_succ_cons, List.take_zero, List.drop_succ_cons, List.drop_zero, List.nil_append, List.cons_append, Option.getD_some, Nat.reduceAdd, Nat.reduceLeDiff, List.append_nil, and_self, List.all_cons, List.all_nil])
 rw [stk_alloc]
 intro b4 h4
 have n4 := new_ne (hp_self _ _ _) h4
 have n4' := n4.symm
 have m4 := new_ne (g := b1) ((hp_ne _ _ m3').trans ((hp_ne _ _ n2').trans (hp_self _ _ _))) h4
 have m4' := m4.symm
 (try simp +decide -implicitDefEqProofs only [go_sem, hp_ne, n2, n2', n3, n3', m3, m3', n4, n4', m4, m4', ne_eq, not_false_eq_true, lay, oneOr, List.take_succ_cons, List.take_zero, List.drop_succ_cons, List.drop_zero, List.nil_append, List.cons_append, Option.getD_some, Nat.reduceAdd, Nat.reduceLeDiff, List.append_nil, and_self, List.all_cons, List.all_nil])
 refine stk_pureW ⟨[(44, .sl false 1 (strRows p.elems)), (5, .pl [.fn 96 [.pl (polCells p)]]), (1, .pl (polCells p))], AHeap.none⟩ (Weak.list _ (Sub.none _) ?_) (list_ok p.elems 99 [] elP (by omega) (by kernel_rfl) l1) fun v hv => ?_
 ·(try simp +decide -implicitDefEqProofs only [go_sem])
  exact ⟨FZ.cell1 (hp_self _ _ _) rfl (FZ.fn1 (FZ.cellsR ((hp_ne _ _ m4').trans ((hp_ne _ _ m3').trans ((hp_ne _ _ n2').trans (hp_self _ _ _)))) rfl)), FZ.cellsR ((hp_ne _ _ m4').trans ((hp_ne _ _ m3').trans ((hp_ne _ _ n2').trans (hp_self _ _ _)))) rfl⟩
 subst hv
 (try simp +decide -implicitDefEqProofs only [go_sem, polCells, lay, oneOr, List.take_succ_cons, List.take_zero, List.drop_succ_cons, List.drop_zero, List.nil_append, List.cons_append, Option.getD_some, Nat.reduceAdd, Nat.reduceLeDiff, List.append_nil, and_self, List.all_cons, List.all_nil])
 refine stk_pure (list_ok p.attrs 102 [.pl [.fn 96 [.pl (polCells p)]]] (attrsP p.elems) (by omega) (by kernel_rfl) l2) fun v hv => ?_
 subst hv
 (try simp +decide -implicitDefEqProofs only [go_sem, polCells, lay, oneOr, List.take_succ_cons, List.take_zero, List.drop_succ_cons, List.drop_zero, List.nil_append, List.cons_append, Option.getD_some, Nat.reduceAdd, Nat.reduceLeDiff, List.append_nil, and_self, List.all_cons, List.all_nil])
 refine stk_pure (list_ok p.schemes 104 [] schemeP (by omega) (by kernel_rfl) l3) fun v hv => ?_
 subst hv
 have l6 := fun s => right1_ok (W := W) p s (by omega)
 clear hc n2 n2' n3 n3' m3 m3' n4 n4' m4 m4' h1 h2 h3 h4 hcap
 generalize listP p.elems elP = x1
 generalize listP p.attrs (attrsP p.elems) = x2
 generalize listP p.schemes schemeP = x3
 cases x1
 ·(try simp +decide -implicitDefEqProofs only [go_sem])
  refine aret_pure (.inr rfl) ?_; simp +decide only [retOf, tget, if_true, if_false, ↓reduceIte, List.map_cons, List.map_nil]
  try rfl
 cases x2
 ·(try simp +decide -implicitDefEqProofs only [go_sem])
  refine aret_pure (.inr rfl) ?_; simp +decide only [retOf, tget, if_true, if_false, ↓reduceIte, List.map_cons, List.map_nil]
  try rfl
 cases x3
 ·(try simp +decide -implicitDefEqProofs only [go_sem])
  refine aret_pure (.inr rfl) ?_; simp +decide only [retOf, tget, if_true, if_false, ↓reduceIte, List.map_cons, List.map_nil]
  try rfl
 (try simp +decide -implicitDefEqProofs only [go_sem, lay, oneOr, List.take_succ_cons, List.take_zero, List.drop_succ_cons, List.drop_zero, List.nil_append, List.cons_append, Option.getD_some, Nat.reduceAdd, Nat.reduceLeDiff, List.append_nil, and_self, List.all_cons, List.all_nil])
 refine stk_pure (list_ok p.classes 100 [] wordP (by omega) (by kernel_rfl) l4) fun v hv => ?_
 subst hv
 generalize listP p.classes wordP = x4
 cases x4
 ·(try simp +decide -implicitDefEqProofs only [go_sem])
  refine aret_pure (.inr rfl) ?_; simp +decide only [retOf, tget, if_true, if_false, ↓reduceIte, List.map_cons, List.map_nil]
  try rfl
 (try simp +decide -implicitDefEqProofs only [go_sem, lay, oneOr, List.take_succ_cons, List.take_zero, List.drop_succ_cons, List.drop_zero, List.nil_append, List.cons_append, Option.getD_some, Nat.reduceAdd, Nat.reduceLeDiff, List.append_nil, and_self, List.all_cons, List.all_nil])
 refine stk_pure (list_ok p.props 100 [] wordP (by omega) (by kernel_rfl) l5) fun v hv => ?_
 subst hv
 generalize listP p.props wordP = x5
 cases x5
 ·(try simp +decide -implicitDefEqProofs only [go_sem])
  refine aret_pure (.inr rfl) ?_; simp +decide only [retOf, tget, if_true, if_false, ↓reduceIte, List.map_cons, List.map_nil]
  try rfl
 (try simp +decide -implicitDefEqProofs only [go_sem, lay, oneOr, List.take_succ_cons, List.take_zero, List.drop_succ_cons, List.drop_zero, List.nil_append, List.cons_append, Option.getD_some, Nat.reduceAdd, Nat.reduceLeDiff, List.append_nil, and_self, List.all_cons, List.all_nil])
 refine stk_callv (f := 96) (caps := [.pl (polCells p)]) (by rfl) (by kernel_rfl) (l6 (⟨#[108, 105]⟩ : ByteArray)) fun v hv => ?_
 subst hv
 unfold liP
 cases decide ((⟨#[108, 105]⟩ : ByteArray) ∈ p.elems)
 ·(try simp +decide -implicitDefEqProofs only [go_sem])
  refine aret_pure (.inr rfl) ?_; simp +decide only [retOf, tget, if_true, if_false, ↓reduceIte, List.map_cons, List.map_nil]
  try rfl
 (try simp +decide -implicitDefEqProofs only [go_sem, lay, oneOr, List.take_succ_cons, List.take_zero, List.drop_succ_cons, List.drop_zero, List.nil_append, List.cons_append, Option.getD_some, Nat.reduceAdd, Nat.reduceLeDiff, List.append_nil, and_self, List.all_cons, List.all_nil])
 refine stk_callv (f := 96) (caps := [.pl (polCells p)]) (by rfl) (by kernel_rfl) (l6 (⟨#[117, 108]⟩ : ByteArray)) fun v hv => ?_
 subst hv
 cases decide ((⟨#[117, 108]⟩ : ByteArray) ∈ p.elems)
 ·(try simp +decide -implicitDefEqProofs only [go_sem])
  refine aret_pure (.inr rfl) ?_; simp +decide only [retOf, tget, if_true, if_false, ↓reduceIte, List.map_cons, List.map_nil]
  try rfl
 (try simp +decide -implicitDefEqProofs only [go_sem, lay, oneOr, List.take_succ_cons, List.take_zero, List.drop_succ_cons, List.drop_zero, List.nil_append, List.cons_append, Option.getD_some, Nat.reduceAdd, Nat.reduceLeDiff, List.append_nil, and_self, List.all_cons, List.all_nil])
 refine stk_callv (f := 96) (caps := [.pl (polCells p)]) (by rfl) (by kernel_rfl) (l6 (⟨#[111, 108]⟩ : ByteArray)) fun v hv => ?_
 subst hv
 cases decide ((⟨#[111, 108]⟩ : ByteArray) ∈ p.elems)
 ·(try simp +decide -implicitDefEqProofs only [go_sem])
  refine aret_pure (.inr rfl) ?_; simp +decide only [retOf, tget, if_true, if_false, ↓reduceIte, List.map_cons, List.map_nil]
  try rfl
 (try simp +decide -implicitDefEqProofs only [go_sem])
 refine aret_pure (.inr rfl) ?_; simp +decide only [retOf, tget, if_true, if_false, ↓reduceIte, List.map_cons, List.map_nil]
 try rfl
end Go.Proofs.YtfaodacmdlnabaaGreatDoor.M
