/-
 Lists that are right, and the functions that a policy's lists are asked by: walked.
-/
import Derived.Test.YtfaodacmdlnabaaGreatDoorPb
namespace Go.Proofs.YtfaodacmdlnabaaGreatDoor.M
open Go.RowKit
set_option linter.unusedVariables false
set_option linter.unusedSimpArgs false
def risesL (l : List Str) : Bool := (List.range (l.length - 1)).all fun i => strLt (l.getD i ByteArray.empty) (l.getD (i + 1) ByteArray.empty)
def listP (l : List Str) (holds : Str → Bool) : Bool := (risesL l && l.all holds) && decide (l.length ≤ 64)
theorem listP_no1 {l : List Str} {holds : Str → Bool} {i : Nat} (h : i + 1 < l.length) (hs : strLt (l.getD i ByteArray.empty) (l.getD (i + 1) ByteArray.empty) = false) : listP l holds = false := by
 have : risesL l = false := by
  unfold risesL
  rw [List.all_eq_false]
  exact ⟨i, List.mem_range.2 (by omega), by rw [hs]; simp⟩
 unfold listP
 rw [this]; rfl
theorem listP_no2 {l : List Str} {holds : Str → Bool} {i : Nat} (h : i < l.length) (hs : holds (l.getD i ByteArray.empty) = false) : listP l holds = false := by
 unfold listP
 have : l.all holds = false := by
  rw [List.all_eq_false]
  exact ⟨l[i], List.getElem_mem h, by have e : l.getD i ByteArray.empty = l[i] := by simp [h]
                                      rw [← e, hs]; simp⟩
 rw [this, Bool.and_false]; rfl
theorem listP_yes {l : List Str} {holds : Str → Bool} (h1 : ∀ i, i + 1 < l.length → strLt (l.getD i ByteArray.empty) (l.getD (i + 1) ByteArray.empty) = true) (h2 : ∀ i, i < l.length → holds (l.getD i ByteArray.empty) = true) : listP l holds = decide (l.length ≤ 64) := by
 unfold listP
 rw [show risesL l = true from List.all_eq_true.2 (fun i hi => h1 i (by have := List.mem_range.1 hi; omega)), List.all_eq_true.2 (fun x hx => by
  obtain ⟨i, hi, rfl⟩ := List.getElem_of_mem hx
  have := h2 i hi
  simpa [hi] using this)]
 rfl
def c_list : AFn := ⟨2, 35, [4],
 .seq (.ops [oq 4 (.mv (.const (.bool false)))])
 (.seq (.seq (.ops [oq 7 (.mv (.tmp 0)),
   oq 8 (.len false (.tmp 7)),
   oq 9 (.mv (.const (.int .i64 0)))])
 (.block 0 (.loop (.seq (.ops [oq 10 (.bin .lss .num (.tmp 9) (.tmp 8))])
   (.seq (.cond (.tmp 10)
    (.skip)
    (.exit 0))
   (.seq (.block 1 (.seq (.ops [oq 11 (.mv (.tmp 9)),
      oq 12 (.ixa 1 (.tmp 7) (.tmp 9)),
      oq 13 (.ld false 1 (.tmp 12)),
      oq 5 (.mv (.tmp 11)),
      oq 6 (.mv (.tmp 13))])
    (.seq (.ops [oq 14 (.mv (.tmp 5)),
      oq 15 (.bin .gtr .num (.tmp 14) (.const (.int .i64 0))),
      oq 16 (.mv (.tmp 15)),
      og 17 16 true (.mv (.tmp 0)),
      og 18 16 true (.mv (.tmp 5)),
      og 19 16 true (.bin .sub .num (.tmp 18) (.const (.int .i64 1))),
      og 20 16 true (.ixa 1 (.tmp 17) (.tmp 19)),
      og 21 16 true (.ld false 1 (.tmp 20)),
      og 22 16 true (.mv (.tmp 6)),
      og 23 16 true (.bin .geq .num (.tmp 21) (.tmp 22)),
      oq 24 (.pick (.tmp 16) (.tmp 23) (.const (.bool false))),
      oq 25 (.mv (.tmp 24)),
      og 26 25 false (.mv (.tmp 1)),
      og 27 25 false (.mv (.tmp 6)),
      oh 28 25 false (.callv (.tmp 26) [(.tmp 27)]),
      og 29 25 false (.un .not (.tmp 28)),
      oq 30 (.pick (.tmp 25) (.const (.bool true)) (.tmp 29))])
    (.cond (.tmp 30)
     (.seq (.ops [oq 4 (.mv (.const (.bool false)))])
     (.ret))
     (.skip)))))
   (.ops [oq 31 (.bin .add .num (.tmp 9) (.const (.int .i64 1))),
     oq 9 (.mv (.tmp 31))])))))))
 (.seq (.ops [oq 32 (.mv (.tmp 0)),
   oq 33 (.len false (.tmp 32)),
   oq 34 (.bin .leq .num (.tmp 33) (.const (.int .i64 64))),
   oq 4 (.mv (.tmp 34))])
 (.ret))), []⟩
theorem k_list : compF Tryz.prog 98 = some c_list := by kernel_rfl
set_option maxHeartbeats 4000000 in
theorem list_ok {W : World} {fl : Bool} (l : List Str) (f : FuncId) (caps : List AVal) (holds : Str → Bool) (hl : l.length ≤ 1000000) (hc : callable Tryz.prog f = true) (h : ∀ s, s ∈ l → ACalls Tryz.prog W f (.v (.string s) :: caps) AHeap.none fun v _ => v = .v (.bool (holds s))) :
  ACalls Tryz.prog W 98 [.sl fl 1 (strRows l), .fn f caps] AHeap.none fun v _ => v = .v (.bool (listP l holds)) := by
 refine fn_run follows k_list rfl ?_
 simp only [oq, og, oe, oh, on, c_list, aretC_nil, List.zipIdx_cons, List.zipIdx_nil, List.map_cons, List.map_nil, Nat.zero_add]
 (try simp +decide -implicitDefEqProofs only [go_sem])
 refine stk_up (α := Unit) l.length (fun i _ => ⟨[(9, .v (.int .i64 i)), (8, .v (.int .i64 l.length)), (7, .sl fl 1 (strRows l)), (0, .sl fl 1 (strRows l)), (1, .fn f caps)], AHeap.none⟩) (fun i _ => (∀ j, j + 1 < i → strLt (l.getD j ByteArray.empty) (l.getD (j + 1) ByteArray.empty) = true) ∧ ∀ j, j < i → holds (l.getD j ByteArray.empty) = true) () (Weak.list _ (Sub.refl _) (by (try simp +decide -implicitDefEqProofs only [go_sem]))) ⟨fun j h => by omega, fun j h => by omega⟩ ?_
 rintro i ⟨⟩ hi ⟨hJ1, hJ2⟩
 by_cases hlt : i < l.length
 ·have g1 : (i : Int) < (l.length : Int) := by omega
  have hg := strRows_get hlt
  have hmem : l.getD i ByteArray.empty ∈ l := by
   have e : l.getD i ByteArray.empty = l[i] := by simp [hlt]
   rw [e]; exact List.getElem_mem _
  have hcall := h _ hmem
  rcases i with _ | m
  ·have w0 : IntKind.i64.wrap (0 + 1) = 1 := by decide
   have g1' : (0 : Int) < (l.length : Int) := by omega
   (try simp +decide -implicitDefEqProofs only [go_sem, g1', hlt, hg])
   refine stk_callv (f := f) (caps := caps) (by rfl) hc hcall fun v hv => ?_
   subst hv
   cases hh : holds (l.getD 0 ByteArray.empty)
   ·(try simp +decide -implicitDefEqProofs only [go_sem])
    refine aret_pure (.inr rfl) ?_; simp +decide only [retOf, tget, if_true, if_false, ↓reduceIte, List.map_cons, List.map_nil]
    rw [listP_no2 hlt hh]
   ·(try simp +decide -implicitDefEqProofs only [go_sem, w0])
    refine ⟨(), Weak.list _ (Sub.refl _) (by (try simp +decide -implicitDefEqProofs only [go_sem])), ?_⟩
    exact ⟨fun j h => by omega, fun j hj => by obtain rfl : j = 0 := by omega
                                               exact hh⟩
  ·have g2 : (0 : Int) < (m : Int) + 1 := by omega
   have w2 : IntKind.i64.wrap ((m : Int) + 1 - 1) = (m : Int) := by rw [IntKind.wrap_i64]; omega
   have w3 := wrap_in (n := (m : Int) + 1 + 1) (by omega) (by omega)
   have hm : m < l.length := by omega
   have g3 : (m : Int) < (l.length : Int) := by omega
   have g4 : (0 : Int) ≤ (m : Int) + 1 := by omega
   have g5 : (m : Int) + 1 < (l.length : Int) := by omega
   have g6 : ((m : Int) + 1).toNat = m + 1 := by omega
   have hg2 := strRows_get hm
   cases hst : strLt (l.getD m ByteArray.empty) (l.getD (m + 1) ByteArray.empty)
   ·(try simp +decide -implicitDefEqProofs only [go_sem, g1, g2, g3, g4, g5, g6, hlt, hm, hg, hg2, hst, w2])
    refine aret_pure (.inr rfl) ?_; simp +decide only [retOf, tget, if_true, if_false, ↓reduceIte, List.map_cons, List.map_nil]
    rw [listP_no1 hlt hst]
   ·(try simp +decide -implicitDefEqProofs only [go_sem, g1, g2, g3, g4, g5, g6, hlt, hm, hg, hg2, hst, w2])
    refine stk_callv (f := f) (caps := caps) (by rfl) hc hcall fun v hv => ?_
    subst hv
    cases hh : holds (l.getD (m + 1) ByteArray.empty)
    ·(try simp +decide -implicitDefEqProofs only [go_sem])
     refine aret_pure (.inr rfl) ?_; simp +decide only [retOf, tget, if_true, if_false, ↓reduceIte, List.map_cons, List.map_nil]
     rw [listP_no2 hlt hh]
    ·(try simp +decide -implicitDefEqProofs only [go_sem, w3])
     refine ⟨(), Weak.list _ (Sub.refl _) (by (try simp +decide -implicitDefEqProofs only [go_sem])), ?_⟩
     refine ⟨fun j h => ?_, fun j hj => ?_⟩
     ·by_cases e : j = m
      ·subst e; exact hst
      ·exact hJ1 j (by omega)
     ·by_cases e : j = m + 1
      ·subst e; exact hh
      ·exact hJ2 j (by omega)
 ·have g1 : ¬ (i : Int) < (l.length : Int) := by omega
  obtain rfl : i = l.length := by omega
  (try simp +decide -implicitDefEqProofs only [go_sem, g1])
  refine aret_pure (.inr rfl) ?_; simp +decide only [retOf, tget, if_true, if_false, ↓reduceIte, List.map_cons, List.map_nil]
  rw [listP_yes hJ1 hJ2]
  exact congrArg (fun b => AVal.v (.bool b)) (decide_eq_decide.2 (by omega))
def c_Right2 : AFn := ⟨1, 10, [2],
 .seq (.ops [oq 2 (.mv (.const (.bool false)))])
 (.seq (.ops [oq 3 (.mv (.tmp 0)),
   oe 4 (.call 100 [(.tmp 3)]),
   oq 5 (.mv (.tmp 4)),
   og 6 5 true (.mv (.tmp 0)),
   oh 7 5 true (.call 101 [(.tmp 6)]),
   og 8 5 true (.un .not (.tmp 7)),
   oq 9 (.pick (.tmp 5) (.tmp 8) (.const (.bool false))),
   oq 2 (.mv (.tmp 9))])
 (.ret)), []⟩
theorem k_Right2 : compF Tryz.prog 99 = some c_Right2 := by kernel_rfl
theorem right2_ok {W : World} (s : Str) (hs : s.size ≤ 1000000000) : ACalls Tryz.prog W 99 [.v (.string s)] AHeap.none fun v _ => v = .v (.bool (wordP s && !neverP s)) := by
 refine fn_run follows k_Right2 rfl ?_
 simp only [oq, og, oe, oh, on, c_Right2, aretC_nil, List.zipIdx_cons, List.zipIdx_nil, List.map_cons, List.map_nil, Nat.zero_add]
 (try simp +decide -implicitDefEqProofs only [go_sem])
 refine stk_pure (word_ok s hs) fun v hv => ?_
 subst hv
 cases hw : wordP s
 ·(try simp +decide -implicitDefEqProofs only [go_sem])
  refine aret_pure (.inr rfl) ?_; simp +decide only [retOf, tget, if_true, if_false, ↓reduceIte, List.map_cons, List.map_nil]
  try rfl
 ·(try simp +decide -implicitDefEqProofs only [go_sem])
  refine stk_pure (never_ok s) fun v hv => ?_
  subst hv
  (try simp +decide -implicitDefEqProofs only [go_sem])
  refine aret_pure (.inr rfl) ?_; simp +decide only [retOf, tget, if_true, if_false, ↓reduceIte, List.map_cons, List.map_nil]
  try rfl
def schemeP (s : Str) : Bool := wordP s && (decide (s ≠ (⟨#[106, 97, 118, 97, 115, 99, 114, 105, 112, 116]⟩ : ByteArray)) && (decide (s ≠ (⟨#[100, 97, 116, 97]⟩ : ByteArray)) && decide (s ≠ (⟨#[118, 98, 115, 99, 114, 105, 112, 116]⟩ : ByteArray))))
def c_Right4 : AFn := ⟨1, 17, [2],
 .seq (.ops [oq 2 (.mv (.const (.bool false)))])
 (.seq (.ops [oq 3 (.mv (.tmp 0)),
   oe 4 (.call 100 [(.tmp 3)]),
   oq 5 (.mv (.tmp 4)),
   og 6 5 true (.mv (.tmp 0)),
   og 7 5 true (.bin .neq .num (.tmp 6) (.const (.string ⟨#[106, 97, 118, 97, 115, 99, 114, 105, 112, 116]⟩))),
   oq 8 (.pick (.tmp 5) (.tmp 7) (.const (.bool false))),
   oq 9 (.mv (.tmp 8)),
   og 10 9 true (.mv (.tmp 0)),
   og 11 9 true (.bin .neq .num (.tmp 10) (.const (.string ⟨#[100, 97, 116, 97]⟩))),
   oq 12 (.pick (.tmp 9) (.tmp 11) (.const (.bool false))),
   oq 13 (.mv (.tmp 12)),
   og 14 13 true (.mv (.tmp 0)),
   og 15 13 true (.bin .neq .num (.tmp 14) (.const (.string ⟨#[118, 98, 115, 99, 114, 105, 112, 116]⟩))),
   oq 16 (.pick (.tmp 13) (.tmp 15) (.const (.bool false))),
   oq 2 (.mv (.tmp 16))])
 (.ret)), []⟩
theorem k_Right4 : compF Tryz.prog 104 = some c_Right4 := by kernel_rfl
theorem right4_ok {W : World} (s : Str) (hs : s.size ≤ 1000000000) : ACalls Tryz.prog W 104 [.v (.string s)] AHeap.none fun v _ => v = .v (.bool (schemeP s)) := by
 refine fn_run follows k_Right4 rfl ?_
 simp only [oq, og, oe, oh, on, c_Right4, aretC_nil, List.zipIdx_cons, List.zipIdx_nil, List.map_cons, List.map_nil, Nat.zero_add]
 (try simp +decide -implicitDefEqProofs only [go_sem])
 refine stk_pure (word_ok s hs) fun v hv => ?_
 subst hv
 unfold schemeP
 cases hw : wordP s
 ·(try simp +decide -implicitDefEqProofs only [go_sem])
  refine aret_pure (.inr rfl) ?_; simp +decide only [retOf, tget, if_true, if_false, ↓reduceIte, List.map_cons, List.map_nil]
  try rfl
 ·by_cases e1 : s = (⟨#[106, 97, 118, 97, 115, 99, 114, 105, 112, 116]⟩ : ByteArray)
  ·have f1 : decide (s ≠ (⟨#[106, 97, 118, 97, 115, 99, 114, 105, 112, 116]⟩ : ByteArray)) = false := by simp [e1]
   (try simp +decide -implicitDefEqProofs only [go_sem, f1])
   refine aret_pure (.inr rfl) ?_; simp +decide only [retOf, tget, if_true, if_false, ↓reduceIte, List.map_cons, List.map_nil]
   try rfl
  ·have f1 : decide (s ≠ (⟨#[106, 97, 118, 97, 115, 99, 114, 105, 112, 116]⟩ : ByteArray)) = true := by simp [e1]
   by_cases e2 : s = (⟨#[100, 97, 116, 97]⟩ : ByteArray)
   ·have f2 : decide (s ≠ (⟨#[100, 97, 116, 97]⟩ : ByteArray)) = false := by simp [e2]
    (try simp +decide -implicitDefEqProofs only [go_sem, f1, f2])
    refine aret_pure (.inr rfl) ?_; simp +decide only [retOf, tget, if_true, if_false, ↓reduceIte, List.map_cons, List.map_nil]
    try rfl
   ·have f2 : decide (s ≠ (⟨#[100, 97, 116, 97]⟩ : ByteArray)) = true := by simp [e2]
    (try simp +decide -implicitDefEqProofs only [go_sem, f1, f2])
    refine aret_pure (.inr rfl) ?_; simp +decide only [retOf, tget, if_true, if_false, ↓reduceIte, List.map_cons, List.map_nil]
    try rfl
structure Pol where
 epoch : Int
 elems : List Str
 attrs : List Str
 schemes : List Str
 classes : List Str
 props : List Str
 depth : Int
 nodes : Int
 bytes : Int
def polCells (p : Pol) : List AVal := [.v (.int .i64 p.epoch), .sl false 1 (strRows p.elems), .sl false 1 (strRows p.attrs), .sl false 1 (strRows p.schemes), .sl false 1 (strRows p.classes), .sl false 1 (strRows p.props), .v (.int .i64 p.depth), .v (.int .i64 p.nodes), .v (.int .i64 p.bytes)]
def c_Right1 : AFn := ⟨1, 8, [3],
 .seq (.ops [oq 3 (.mv (.const (.bool false)))])
 (.seq (.ops [oq 4 (.fad 1 1 (.tmp 1)),
   oq 5 (.ld false 1 (.tmp 4)),
   oq 6 (.mv (.tmp 0)),
   oe 7 (.call 97 [(.tmp 5), (.tmp 6)]),
   oq 3 (.mv (.tmp 7))])
 (.ret)), []⟩
theorem k_Right1 : compF Tryz.prog 96 = some c_Right1 := by kernel_rfl
theorem right1_ok {W : World} (p : Pol) (s : Str) (hl : p.elems.length ≤ 1000000000) : ACalls Tryz.prog W 96 [.v (.string s), .pl (polCells p)] AHeap.none fun v _ => v = .v (.bool (decide (s ∈ p.elems))) := by
 refine fn_run follows k_Right1 rfl ?_
 simp only [oq, og, oe, oh, on, c_Right1, aretC_nil, List.zipIdx_cons, List.zipIdx_nil, List.map_cons, List.map_nil, Nat.zero_add]
 (try simp +decide -implicitDefEqProofs only [go_sem, polCells, lay, oneOr, List.take_succ_cons, List.take_zero, List.drop_succ_cons, List.drop_zero, List.nil_append, List.cons_append, Option.getD_some, Nat.reduceAdd, Nat.reduceLeDiff, List.append_nil, and_self, List.all_cons, List.all_nil])
 refine stk_pure (contains_ok p.elems s hl) fun v hv => ?_
 subst hv
 (try simp +decide -implicitDefEqProofs only [go_sem])
 refine aret_pure (.inr rfl) ?_; simp +decide only [retOf, tget, if_true, if_false, ↓reduceIte, List.map_cons, List.map_nil]
def dotS : Str := ⟨#[46]⟩
def starS : Str := ⟨#[42]⟩
def attrsP (elems : List Str) (s : Str) : Bool := (cutT s dotS).2.2 && ((decide ((cutT s dotS).1 = starS) || decide ((cutT s dotS).1 ∈ elems)) && attrP (cutT s dotS).2.1)
def c_Right3 : AFn := ⟨1, 27, [3],
 .seq (.ops [oq 3 (.mv (.const (.bool false)))])
 (.seq (.ops [oq 8 (.mv (.tmp 0)),
   oe 9 (.call 20 [(.tmp 8), (.const (.string ⟨#[46]⟩))]),
   oq 7 (.mv (.tmp 9)),
   oq 10 (.ext (.tmp 7) 0),
   oq 11 (.ext (.tmp 7) 1),
   oq 12 (.ext (.tmp 7) 2),
   oq 4 (.mv (.tmp 10)),
   oq 5 (.mv (.tmp 11)),
   oq 6 (.mv (.tmp 12))])
 (.seq (.ops [oq 13 (.mv (.tmp 6)),
   oq 14 (.mv (.tmp 13)),
   og 15 14 true (.mv (.tmp 4)),
   og 16 14 true (.bin .eql .num (.tmp 15) (.const (.string ⟨#[42]⟩))),
   og 17 14 true (.mv (.tmp 16)),
   og 18 17 false (.ld false 1 (.tmp 1)),
   og 19 17 false (.mv (.tmp 4)),
   oh 20 17 false (.callv (.tmp 18) [(.tmp 19)]),
   og 21 14 true (.pick (.tmp 17) (.const (.bool true)) (.tmp 20)),
   oq 22 (.pick (.tmp 14) (.tmp 21) (.const (.bool false))),
   oq 23 (.mv (.tmp 22)),
   og 24 23 true (.mv (.tmp 5)),
   oh 25 23 true (.call 103 [(.tmp 24)]),
   oq 26 (.pick (.tmp 23) (.tmp 25) (.const (.bool false))),
   oq 3 (.mv (.tmp 26))])
 (.ret))), []⟩
theorem k_Right3 : compF Tryz.prog 102 = some c_Right3 := by kernel_rfl
set_option maxHeartbeats 2000000 in
theorem right3_ok {W : World} (L : Laid W) (p : Pol) (s : Str) (hl : p.elems.length ≤ 1000000000) (hs : s.size < 4294967281) (hs2 : (cutT s dotS).2.1.size ≤ 1000000000) : ACalls Tryz.prog W 102 [.v (.string s), .pl [.fn 96 [.pl (polCells p)]]] AHeap.none fun v _ => v = .v (.bool (attrsP p.elems s)) := by
 refine fn_run follows k_Right3 rfl ?_
 simp only [oq, og, oe, oh, on, c_Right3, aretC_nil, List.zipIdx_cons, List.zipIdx_nil, List.map_cons, List.map_nil, Nat.zero_add]
 (try simp +decide -implicitDefEqProofs only [go_sem])
 refine stk_pure (cut_ok L s dotS hs) fun v hv => ?_
 subst hv
 unfold attrsP
 generalize cutT s dotS = q at hs2 ⊢
 obtain ⟨a, b, is⟩ := q
 dsimp only at hs2 ⊢
 cases is
 ·(try simp +decide -implicitDefEqProofs only [go_sem])
  refine aret_pure (.inr rfl) ?_; simp +decide only [retOf, tget, if_true, if_false, ↓reduceIte, List.map_cons, List.map_nil]
  try rfl
 ·by_cases e : a = starS
  ·have e1 : decide (a = (⟨#[42]⟩ : ByteArray)) = true := decide_eq_true e
   (try simp +decide -implicitDefEqProofs only [go_sem, e1])
   refine stk_pure (attr_ok b hs2) fun v hv => ?_
   subst hv
   (try simp +decide -implicitDefEqProofs only [go_sem])
   refine aret_pure (.inr rfl) ?_; simp +decide only [retOf, tget, if_true, if_false, ↓reduceIte, List.map_cons, List.map_nil]
   rw [decide_eq_true e]; try rfl
  ·have e1 : decide (a = (⟨#[42]⟩ : ByteArray)) = false := decide_eq_false e
   (try simp +decide -implicitDefEqProofs only [go_sem, e1, lay, oneOr, List.take_succ_cons, List.take_zero, List.drop_succ_cons, List.drop_zero, List.nil_append, List.cons_append, Option.getD_some, Nat.reduceAdd, Nat.reduceLeDiff, List.append_nil, and_self, List.all_cons, List.all_nil])
   refine stk_callv (f := 96) (caps := [.pl (polCells p)]) (by rfl) (by kernel_rfl) (right1_ok p a hl) fun v hv => ?_
   subst hv
   rw [decide_eq_false e, Bool.false_or]
   cases hm : decide (a ∈ p.elems)
   ·(try simp +decide -implicitDefEqProofs only [go_sem])
    refine aret_pure (.inr rfl) ?_; simp +decide only [retOf, tget, if_true, if_false, ↓reduceIte, List.map_cons, List.map_nil]
    try rfl
   ·(try simp +decide -implicitDefEqProofs only [go_sem])
    refine stk_pure (attr_ok b hs2) fun v hv => ?_
    subst hv
    (try simp +decide -implicitDefEqProofs only [go_sem])
    refine aret_pure (.inr rfl) ?_; simp +decide only [retOf, tget, if_true, if_false, ↓reduceIte, List.map_cons, List.map_nil]
    try rfl
end Go.Proofs.YtfaodacmdlnabaaGreatDoor.M
