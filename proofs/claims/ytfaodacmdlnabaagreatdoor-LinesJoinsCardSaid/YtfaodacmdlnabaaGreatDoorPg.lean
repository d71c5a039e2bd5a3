/-
 Which policies the laws go through; the policy that the laws' own check is of: walked.
-/
import Derived.Test.YtfaodacmdlnabaaGreatDoorPf
namespace Go.Proofs.YtfaodacmdlnabaaGreatDoor.M
open Go.RowKit
set_option linter.unusedVariables false
set_option linter.unusedSimpArgs false
theorem fits_of {p : Pol} (h : ∀ i, i < 5 → ((polLists p).getD i []).length ≤ 100 ∧ ∀ s ∈ (polLists p).getD i [], s.size ≤ 6000) : Fits p := by
 have h0 := h 0 (by omega)
 have h1 := h 1 (by omega)
 have h2 := h 2 (by omega)
 have h3 := h 3 (by omega)
 have h4 := h 4 (by omega)
 refine ⟨Nat.le_trans h0.1 (by omega), Nat.le_trans h1.1 (by omega), Nat.le_trans h2.1 (by omega), Nat.le_trans h3.1 (by omega), Nat.le_trans h4.1 (by omega), fun l hl s hs => ?_⟩
 simp only [List.mem_cons, List.not_mem_nil, or_false] at hl
 rcases hl with rfl | rfl | rfl | rfl | rfl
 ·exact Nat.le_trans (h0.2 s hs) (by omega)
 ·exact Nat.le_trans (h1.2 s hs) (by omega)
 ·exact Nat.le_trans (h2.2 s hs) (by omega)
 ·exact Nat.le_trans (h3.2 s hs) (by omega)
 ·exact Nat.le_trans (h4.2 s hs) (by omega)
/-- How long a policy's lists are, at most. -/
def Lens (p : Pol) : Prop := ∀ i, ((polLists p).getD i []).length ≤ 9223372036854775807
def c_Light : AFn := ⟨1, 43, [2],
 .seq (.ops [oe 1 (.box 36 (.tmp 0)),
   oq 2 (.mv (.const (.bool false)))])
 (.seq (.ops [oq 3 (.mv (.const (.int .i64 0)))])
 (.seq (.seq (.ops [oq 7 (.fad 1 1 (.tmp 1)),
   oq 8 (.ld false 1 (.tmp 7)),
   oq 9 (.fad 2 1 (.tmp 1)),
   oq 10 (.ld false 1 (.tmp 9)),
   oq 11 (.fad 3 1 (.tmp 1)),
   oq 12 (.ld false 1 (.tmp 11)),
   oq 13 (.fad 4 1 (.tmp 1)),
   oq 14 (.ld false 1 (.tmp 13)),
   oq 15 (.fad 5 1 (.tmp 1)),
   oq 16 (.ld false 1 (.tmp 15)),
   oe 17 (.bsl 34 1 [(.tmp 8), (.tmp 10), (.tmp 12), (.tmp 14), (.tmp 16)]),
   oq 18 (.len false (.tmp 17)),
   oq 19 (.mv (.const (.int .i64 0)))])
 (.block 0 (.loop (.seq (.ops [oq 20 (.bin .lss .num (.tmp 19) (.tmp 18))])
   (.seq (.cond (.tmp 20)
    (.skip)
    (.exit 0))
   (.seq (.block 1 (.seq (.ops [oq 21 (.ixa 1 (.tmp 17) (.tmp 19)),
      oq 22 (.ld false 1 (.tmp 21)),
      oq 5 (.mv (.tmp 22))])
    (.seq (.seq (.ops [oq 23 (.mv (.tmp 5)),
      oq 24 (.len false (.tmp 23)),
      oq 25 (.bin .gtr .num (.tmp 24) (.const (.int .i64 100)))])
    (.cond (.tmp 25)
     (.seq (.ops [oq 2 (.mv (.const (.bool false)))])
     (.ret))
     (.skip)))
    (.seq (.ops [oq 6 (.mv (.const (.int .i64 0)))])
    (.block 2 (.loop (.seq (.seq (.ops [oq 26 (.mv (.tmp 6)),
        oq 27 (.mv (.tmp 5)),
        oq 28 (.len false (.tmp 27)),
        oq 29 (.bin .lss .num (.tmp 26) (.tmp 28))])
      (.cond (.tmp 29)
       (.skip)
       (.exit 2)))
      (.seq (.block 3 (.ops [oq 32 (.mv (.tmp 3)),
         oq 33 (.mv (.tmp 5)),
         oq 34 (.mv (.tmp 6)),
         oq 35 (.ixa 1 (.tmp 33) (.tmp 34)),
         oq 36 (.ld false 1 (.tmp 35)),
         oq 37 (.len true (.tmp 36)),
         oq 38 (.mm false (.tmp 37) (.const (.int .i64 10000))),
         oq 39 (.bin .add .num (.tmp 32) (.tmp 38)),
         oq 3 (.mv (.tmp 39))]))
      (.ops [oq 30 (.mv (.tmp 6)),
        oq 31 (.bin .add .num (.tmp 30) (.const (.int .i64 1))),
        oq 6 (.mv (.tmp 31))])))))))))
   (.ops [oq 40 (.bin .add .num (.tmp 19) (.const (.int .i64 1))),
     oq 19 (.mv (.tmp 40))])))))))
 (.seq (.ops [oq 41 (.mv (.tmp 3)),
   oq 42 (.bin .lss .num (.tmp 41) (.const (.int .i64 6000))),
   oq 2 (.mv (.tmp 42))])
 (.ret)))), []⟩
theorem k_Light : compF Tryz.prog 16 = some c_Light := by kernel_rfl
set_option maxRecDepth 100000 in
set_option maxHeartbeats 4000000 in
theorem light_ok {W : World} (p : Pol) (hlen : Lens p) : ACalls Tryz.prog W 16 [.agg (polCells p)] AHeap.none fun v _ => ∃ b, v = .v (.bool b) ∧ (b = true → Fits p) := by
 have hp0 : polCells p = [.v (.int .i64 p.epoch), .sl false 1 (strRows p.elems), .sl false 1 (strRows p.attrs), .sl false 1 (strRows p.schemes), .sl false 1 (strRows p.classes), .sl false 1 (strRows p.props), .v (.int .i64 p.depth), .v (.int .i64 p.nodes), .v (.int .i64 p.bytes)] := rfl
 refine fn_run follows k_Light rfl ?_
 simp only [oq, og, oe, oh, on, c_Light, aretC_nil, List.zipIdx_cons, List.zipIdx_nil, List.map_cons, List.map_nil, Nat.zero_add]
 (try simp +decide -implicitDefEqProofs only [go_sem])
 rw [stk_box]
 refine ⟨by rfl, fun b1 h1 => ?_⟩
 (try simp +decide -implicitDefEqProofs only [go_sem, polCells, lay, oneOr, List.take_succ_cons, List.take_zero, List.drop_succ_cons, List.drop_zero, List.nil_append, List.cons_append, Option.getD_some, Nat.reduceAdd, Nat.reduceLeDiff, List.append_nil, and_self, List.all_cons, List.all_nil])
 refine stk_up (α := Nat) 5 (fun i n => ⟨[(19, .v (.int .i64 i)), (18, .v (.int .i64 ((5 : Nat) : Int))), (17, .sl true 1 ((polLists p).map fun l => [AVal.sl false 1 (strRows l)])), (3, .v (.int .i64 n))], AHeap.none⟩) (fun i n => (∀ j, j < i → ((polLists p).getD j []).length ≤ 100 ∧ ∀ s ∈ (polLists p).getD j [], min s.size 10000 ≤ n) ∧ n ≤ i * 1000000) 0 (Weak.list _ (Sub.none _) ?_) ⟨fun j h => by omega, by omega⟩ ?_
 ·(try simp +decide -implicitDefEqProofs only [go_sem])
  first | done | exact FZ.refl _ | exact ⟨FZ.refl _, FZ.refl _⟩ | exact ⟨FZ.refl _, FZ.refl _, FZ.refl _⟩
 rintro i n hi ⟨hJ1, hJ2⟩
 by_cases hlt : i < 5
 ·have g1 : (i : Int) < ((5 : Nat) : Int) := by omega
  have hwi := wrap_in (n := (i : Int) + 1) (by omega) (by omega)
  have hg := polRows_get p hlt
  have hgl : ((polLists p).map fun l => [AVal.sl false 1 (strRows l)]).length = 5 := rfl
  have hll := hlen i
  generalize hl : (polLists p).getD i [] = l at hg hll
  by_cases hlong : (100 : Int) < (l.length : Int)
  ·(try simp +decide -implicitDefEqProofs only [go_sem, g1, hlt, hg, hgl, hlong])
   refine aret_pure (.inr rfl) ?_; simp +decide only [retOf, tget, if_true, if_false, ↓reduceIte, List.map_cons, List.map_nil]
   exact ⟨false, rfl, fun h => by cases h⟩
  (try simp +decide -implicitDefEqProofs only [go_sem, g1, hlt, hg, hgl, hlong])
  refine stk_up (α := Nat) l.length (fun k m => ⟨[(6, .v (.int .i64 k)), (5, .sl false 1 (strRows l)), (3, .v (.int .i64 m)), (19, .v (.int .i64 i)), (18, .v (.int .i64 ((5 : Nat) : Int))), (17, .sl true 1 ((polLists p).map fun l => [AVal.sl false 1 (strRows l)]))], AHeap.none⟩) (fun k m => n ≤ m ∧ (∀ s ∈ l.take k, min s.size 10000 ≤ m) ∧ m ≤ i * 1000000 + k * 10000) n (Weak.list _ (Sub.refl _) (by (try simp +decide -implicitDefEqProofs only [go_sem]))) ⟨Nat.le_refl _, fun s hs => (by rw [List.take_zero] at hs; cases hs), Nat.le_add_right_of_le hJ2⟩ ?_
  rintro k m hk ⟨hM1, hM2, hM3⟩
  by_cases hkl : k < l.length
  ·have g2 : (k : Int) < (l.length : Int) := by omega
   have hwk := wrap_in (n := (k : Int) + 1) (by omega) (by omega)
   have hgk := strRows_get hkl
   have hget : l.getD k ByteArray.empty = l[k] := by simp [hkl]
   have hmin : min ((l.getD k ByteArray.empty).size : Int) 10000 = ((min (l.getD k ByteArray.empty).size 10000 : Nat) : Int) := by omega
   have hmb : min (l.getD k ByteArray.empty).size 10000 ≤ 10000 := by omega
   have hlast : ∀ s ∈ l.take (k + 1), min s.size 10000 ≤ m + min (l.getD k ByteArray.empty).size 10000 := fun s hs => by
    rw [List.take_succ_eq_append_getElem hkl] at hs
    simp only [List.mem_append, List.mem_singleton] at hs
    rcases hs with hs | rfl
    ·have := hM2 s hs; omega
    ·rw [hget]; omega
   generalize min (l.getD k ByteArray.empty).size 10000 = w at hmin hmb hlast
   have hwm := wrap_in (n := (m : Int) + (w : Int)) (by omega) (by omega)
   have hcast : (m : Int) + (w : Int) = ((m + w : Nat) : Int) := by omega
   (try simp +decide -implicitDefEqProofs only [go_sem, g2, hkl, hgk, hmin, hwm, hwk])
   refine ⟨m + w, Weak.list _ (Sub.refl _) (by (try simp +decide -implicitDefEqProofs only [go_sem])), by omega, hlast, by omega⟩
  ·have g2 : ¬ (k : Int) < (l.length : Int) := by omega
   rw [List.take_of_length_le (by omega)] at hM2
   (try simp +decide -implicitDefEqProofs only [go_sem, g2, hwi])
   refine ⟨m, Weak.list _ (Sub.refl _) (by (try simp +decide -implicitDefEqProofs only [go_sem])), fun j hj => ?_, by omega⟩
   by_cases e : j = i
   ·subst e
    rw [hl]
    exact ⟨by omega, hM2⟩
   ·obtain ⟨q1, q2⟩ := hJ1 j (by omega)
    exact ⟨q1, fun s hs => by have := q2 s hs; omega⟩
 ·have g1 : ¬ (i : Int) < ((5 : Nat) : Int) := by omega
  obtain rfl : i = 5 := by omega
  (try simp +decide -implicitDefEqProofs only [go_sem, g1])
  refine aret_pure (.inr rfl) ?_; simp +decide only [retOf, tget, if_true, if_false, ↓reduceIte, List.map_cons, List.map_nil]
  refine ⟨_, rfl, fun h => fits_of fun i hi => ?_⟩
  have h := of_decide_eq_true h
  obtain ⟨q1, q2⟩ := hJ1 i hi
  exact ⟨q1, fun s hs => by have := q2 s hs; omega⟩
def p0 : Pol := ⟨1, [(⟨#[97]⟩ : ByteArray)], [(⟨#[97, 46, 104, 114, 101, 102]⟩ : ByteArray)], [], [], [], 9, 99, 999⟩
theorem p0_fits : Fits p0 := fits_of fun i hi => by
 rcases i with _ | _ | _ | _ | _ | i
 ·exact ⟨by decide, by decide⟩
 ·exact ⟨by decide, by decide⟩
 ·exact ⟨by decide, by decide⟩
 ·exact ⟨by decide, by decide⟩
 ·exact ⟨by decide, by decide⟩
 ·omega
theorem p0_right : rightP p0 = true := by decide +kernel
theorem p0_lets : letsP p0 (⟨#[97]⟩ : ByteArray) (⟨#[104, 114, 101, 102]⟩ : ByteArray) = true := by decide +kernel
theorem itoa3 : itoaS 1 = (⟨#[49]⟩ : ByteArray) ∧ itoaS 9 = (⟨#[57]⟩ : ByteArray) ∧ itoaS 99 = (⟨#[57, 57]⟩ : ByteArray) ∧ itoaS 999 = (⟨#[57, 57, 57]⟩ : ByteArray) := by
 have e : ∀ n : Nat, itoaS (n : Int) = ⟨(Lib.decDigits n).toArray⟩ := fun n => by
  unfold itoaS Lib.itoa
  rw [if_neg (by omega)]; simp
 have h1 := e 1
 have h9 := e 9
 have h99 := e 99
 have h999 := e 999
 rw [Lib.decDigits_one (by omega)] at h1 h9
 rw [Lib.decDigits_two (by omega) (by omega)] at h99
 rw [Lib.decDigits, dif_neg (by omega), Lib.decDigits_two (by omega) (by omega)] at h999
 refine ⟨h1.trans ?_, h9.trans ?_, h99.trans ?_, h999.trans ?_⟩ <;> decide +kernel
def awakeS : Str := ⟨#[101, 112, 111, 99, 104, 32, 49, 10, 101, 108, 101, 109, 32, 97, 10, 97, 116, 116, 114, 32, 97, 46, 104, 114, 101, 102, 10, 99, 97, 112, 115, 32, 57, 32, 57, 57, 32, 57, 57, 57, 10]⟩
theorem p0_text : textP p0 = awakeS := by
 obtain ⟨h1, h2, h3, h4⟩ := itoa3
 have e : textP p0 = linesS (heads.getD 4 ByteArray.empty) (linesS (heads.getD 3 ByteArray.empty) (linesS (heads.getD 2 ByteArray.empty) (linesS (heads.getD 1 ByteArray.empty) (linesS (heads.getD 0 ByteArray.empty) (ByteArray.empty ++ lineS [(⟨#[101, 112, 111, 99, 104]⟩ : ByteArray), itoaS 1]) [(⟨#[97]⟩ : ByteArray)]) [(⟨#[97, 46, 104, 114, 101, 102]⟩ : ByteArray)]) []) []) [] ++ lineS [(⟨#[99, 97, 112, 115]⟩ : ByteArray), itoaS 9, itoaS 99, itoaS 999] := rfl
 rw [e, h1, h2, h3, h4]
 decide +kernel
theorem FZ.pol0 {H H' : AHeap} : ∀ j (hj : j < 9), FZ H H' ([AVal.v (.int .i64 1), .sl true 1 [[.v (.string (⟨#[97]⟩ : ByteArray))]], .sl true 1 [[.v (.string (⟨#[97, 46, 104, 114, 101, 102]⟩ : ByteArray))]], .v (.slice none 0 0), .v (.slice none 0 0), .v (.slice none 0 0), .v (.int .i64 9), .v (.int .i64 99), .v (.int .i64 999)][j]'hj) ((polCells p0)[j]'hj)
 | 0, _ => .refl _
 | 1, _ => .loose _ _ _
 | 2, _ => .loose _ _ _
 | 3, _ => .nil _
 | 4, _ => .nil _
 | 5, _ => .nil _
 | 6, _ => .refl _
 | 7, _ => .refl _
 | 8, _ => .refl _
end Go.Proofs.YtfaodacmdlnabaaGreatDoor.M
