/-
 Layer 16: the first of a list, as many as there is room for.
-/
import Derived.Test.YtfaodacmdlnabaaGreatDoorDg4
namespace Go.Proofs.YtfaodacmdlnabaaGreatDoor.M
open Go.RowKit
set_option linter.unusedVariables false
set_option linter.unusedSimpArgs false
def sumTo (sz : List Int) : Nat → Int
 | 0 => 0
 | i + 1 => sumTo sz i + sizeAt sz i
def Stop (most : Int) (sz : List Int) (i : Nat) : Prop := 0 < i ∧ (most < sumTo sz i ∨ most - sumTo sz i < sizeAt sz i)
def ShortNot (most : Int) (sz : List Int) (i : Nat) : Prop := ∀ j, j < i → ¬ Stop most sz j
theorem ShortNot.step {most : Int} {sz : List Int} {i : Nat} (h : ShortNot most sz i) (hi : ¬ Stop most sz i) : ShortNot most sz (i + 1) := fun j hj => by
 by_cases e : j = i
 ·rw [e]; exact hi
 ·exact h j (by omega)
def ShortIs (most : Int) (sz : List Int) (n i : Nat) : Prop := i ≤ n ∧ ShortNot most sz i ∧ (i < n → Stop most sz i)
theorem ShortIs.one {most : Int} {sz : List Int} {n i j : Nat} (h : ShortIs most sz n i) (k : ShortIs most sz n j) : i = j := by
 rcases Nat.lt_trichotomy i j with e | e | e
 ·exact absurd (h.2.2 (by have := k.1; omega)) (k.2.1 i e)
 ·exact e
 ·exact absurd (k.2.2 (by have := h.1; omega)) (h.2.1 j e)
theorem sizeAt_nonneg (sz : List Int) (i : Nat) : 0 ≤ sizeAt sz i := by unfold sizeAt; split <;> omega
theorem sizeAt_le {sz : List Int} (h : ∀ i, i < sz.length → sz.getD i 0 ≤ 1000000) (i : Nat) : sizeAt sz i ≤ 1000000 := by
 unfold sizeAt
 split
 ·rename_i hi; have := h i hi; omega
 ·omega
theorem sumTo_in {sz : List Int} (h : ∀ i, i < sz.length → sz.getD i 0 ≤ 1000000) : ∀ i, 0 ≤ sumTo sz i ∧ sumTo sz i ≤ 1000000 * i
 | 0 => ⟨Int.le_refl _, by simp [sumTo]⟩
 | i + 1 => by
  have h1 := sumTo_in h i
  have h2 := sizeAt_nonneg sz i
  have h3 := sizeAt_le h i
  simp only [sumTo]; omega
def c_Short : AFn := ⟨3, 48, [6],
 .seq (.ops [oq 6 (.mv (.const (.slice none 0 0)))])
 (.seq (.ops [oq 7 (.mv (.const (.int .i64 0)))])
 (.seq (.seq (.ops [oq 10 (.mv (.tmp 0)),
   oq 11 (.len false (.tmp 10)),
   oq 12 (.mv (.const (.int .i64 0)))])
 (.block 0 (.loop (.seq (.ops [oq 13 (.bin .lss .num (.tmp 12) (.tmp 11))])
   (.seq (.cond (.tmp 13)
    (.skip)
    (.exit 0))
   (.seq (.block 1 (.seq (.ops [oq 14 (.mv (.tmp 12)),
      oq 8 (.mv (.tmp 14))])
    (.seq (.ops [oq 9 (.mv (.const (.int .i64 0)))])
    (.seq (.seq (.ops [oq 15 (.mv (.tmp 8)),
      oq 16 (.mv (.tmp 1)),
      oq 17 (.len false (.tmp 16)),
      oq 18 (.bin .lss .num (.tmp 15) (.tmp 17))])
    (.cond (.tmp 18)
     (.ops [oq 19 (.mv (.tmp 1)),
       oq 20 (.mv (.tmp 8)),
       oq 21 (.ixa 1 (.tmp 19) (.tmp 20)),
       oq 22 (.ld false 1 (.tmp 21)),
       oq 23 (.mm true (.tmp 22) (.const (.int .i64 0))),
       oq 9 (.mv (.tmp 23))])
     (.skip)))
    (.seq (.seq (.ops [oq 24 (.mv (.tmp 8)),
      oq 25 (.bin .gtr .num (.tmp 24) (.const (.int .i64 0))),
      oq 26 (.mv (.tmp 25)),
      og 27 26 true (.mv (.tmp 7)),
      og 28 26 true (.mv (.tmp 2)),
      og 29 26 true (.bin .gtr .num (.tmp 27) (.tmp 28)),
      og 30 26 true (.mv (.tmp 29)),
      og 31 30 false (.mv (.tmp 9)),
      og 32 30 false (.mv (.tmp 2)),
      og 33 30 false (.mv (.tmp 7)),
      og 34 30 false (.bin .sub .num (.tmp 32) (.tmp 33)),
      og 35 30 false (.bin .gtr .num (.tmp 31) (.tmp 34)),
      og 36 26 true (.pick (.tmp 30) (.const (.bool true)) (.tmp 35)),
      oq 37 (.pick (.tmp 26) (.tmp 36) (.const (.bool false)))])
    (.cond (.tmp 37)
     (.seq (.ops [oq 38 (.mv (.tmp 0)),
       oq 39 (.mv (.tmp 8)),
       oq 40 (.lsl 1 (.tmp 38) none (some (.tmp 39)) none),
       oe 41 (.call 164 [(.tmp 40)]),
       oq 6 (.mv (.tmp 41))])
     (.ret))
     (.skip)))
    (.ops [oq 42 (.mv (.tmp 7)),
      oq 43 (.mv (.tmp 9)),
      oq 44 (.bin .add .num (.tmp 42) (.tmp 43)),
      oq 7 (.mv (.tmp 44))]))))))
   (.ops [oq 45 (.bin .add .num (.tmp 12) (.const (.int .i64 1))),
     oq 12 (.mv (.tmp 45))])))))))
 (.seq (.ops [oq 46 (.mv (.tmp 0)),
   oe 47 (.call 164 [(.tmp 46)]),
   oq 6 (.mv (.tmp 47))])
 (.ret)))), []⟩
theorem k_Short : compF Tryz.prog 127 = some c_Short := by kernel_rfl
set_option maxHeartbeats 4000000 in
theorem short_ok {W : World} (f g : Bool) (l : List Str) (sz : List Int) (most : Int) (hm1 : -9223372036854775808 ≤ most) (hm2 : most ≤ 9223372036854775807) (hl : l.length ≤ 1000) (hsz : sz.length ≤ 1000) (hs : ∀ i, i < sz.length → sz.getD i 0 ≤ 1000000) : ACalls Tryz.prog W 127 [.sl f 1 (strRows l), .sl g 1 (intRows sz), .v (.int .i64 most)] AHeap.none (fun r _ => ∃ i, ShortIs most sz l.length i ∧ r = .sl false 1 (strRows (l.take i))) := by
 refine fn_run follows k_Short rfl ?_
 simp only [oq, og, oe, oh, on, c_Short, aretC_nil, List.zipIdx_cons, List.zipIdx_nil, List.map_cons, List.map_nil, Nat.zero_add]
 (try simp +decide -implicitDefEqProofs only [go_sem])
 refine stk_up (α := Int) l.length (fun i n => ⟨[(12, .v (.int .i64 i)), (11, .v (.int .i64 l.length)), (7, .v (.int .i64 n)), (0, .sl f 1 (strRows l)), (1, .sl g 1 (intRows sz)), (2, .v (.int .i64 most))], AHeap.none⟩) (fun i n => n = sumTo sz i ∧ ShortNot most sz i) 0 (Weak.list _ (Sub.refl _) (by (try simp +decide -implicitDefEqProofs only [go_sem]))) ⟨rfl, fun j hj => absurd hj (by omega)⟩ ?_
 rintro i n hi ⟨hnv, hns⟩
 have hsum := sumTo_in hs i
 have hs1 := sizeAt_le hs i
 have hs2 := sizeAt_nonneg sz i
 rw [← hnv] at hsum
 by_cases hil : i < l.length
 ·have h1 : (i : Int) < (l.length : Int) := by omega
  have hg := strRows_get hil
  have hw := wrap_in (n := i + 1) (by omega) (by omega)
  by_cases hlt : i < sz.length
  ·have g1 : (i : Int) < (sz.length : Int) := by omega
   have hg1 := intRows_get hlt
   have hse : sizeAt sz i = max (sz.getD i 0) 0 := by rw [sizeAt, if_pos hlt]
   have hw3 := wrap_in (n := n + max (sz.getD i 0) 0) (by omega) (by omega)
   have hle : (i : Int) ≤ (l.length : Int) := by omega

   by_cases h0 : 0 < i
   ·have g0 : (0 : Int) < (i : Int) := by omega
    by_cases h2 : most < n
    ·(try simp +decide -implicitDefEqProofs only [go_sem, h1, g0, h2, hg, g1, hg1, hle])
     refine stk_pure (clone_ok _ (l.take i) (by simp; omega)) fun v hv => ?_
     subst hv
     (try simp +decide -implicitDefEqProofs only [go_sem])
     refine aret_loose (f := false) (sz := 1) (rows := strRows (l.take i)) (.inr rfl) ?_ ?_
     ·simp +decide only [retOf, tget, if_true, if_false, ↓reduceIte]
     refine ⟨i, ⟨by omega, hns, fun _ => ⟨h0, .inl (by rw [← hnv]; exact h2)⟩⟩, rfl⟩
    ·have hw4 := wrap_in (n := most - n) (by omega) (by omega)
     by_cases h3 : most - n < max (sz.getD i 0) 0
     ·(try simp +decide -implicitDefEqProofs only [go_sem, h1, g0, h2, h3, hw4, hg, g1, hg1, hle])
      refine stk_pure (clone_ok _ (l.take i) (by simp; omega)) fun v hv => ?_
      subst hv
      (try simp +decide -implicitDefEqProofs only [go_sem])
      refine aret_loose (f := false) (sz := 1) (rows := strRows (l.take i)) (.inr rfl) ?_ ?_
      ·simp +decide only [retOf, tget, if_true, if_false, ↓reduceIte]
      refine ⟨i, ⟨by omega, hns, fun _ => ⟨h0, .inr (by rw [← hnv, hse]; exact h3)⟩⟩, rfl⟩
     ·(try simp +decide -implicitDefEqProofs only [go_sem, h1, g0, h2, h3, hw4, hw, hw3, hg, g1, hg1, hle])
      exact ⟨by omega, n + max (sz.getD i 0) 0, Weak.list _ (Sub.refl _) (by (try simp +decide -implicitDefEqProofs only [go_sem])), by rw [sumTo, hnv, hse], ShortNot.step hns fun h => by rcases h with ⟨_, h | h⟩; exact h2 (by rw [hnv]; exact h); exact h3 (by rw [hnv, ← hse]; exact h)⟩
   ·have g0 : ¬ (0 : Int) < (i : Int) := by omega
    (try simp +decide -implicitDefEqProofs only [go_sem, h1, g0, hw, hw3, hg, g1, hg1, hle])
    exact ⟨by omega, n + max (sz.getD i 0) 0, Weak.list _ (Sub.refl _) (by (try simp +decide -implicitDefEqProofs only [go_sem])), by rw [sumTo, hnv, hse], ShortNot.step hns fun h => absurd h.1 h0⟩
  ·have g1 : ¬ (i : Int) < (sz.length : Int) := by omega
   have hse : sizeAt sz i = 0 := by rw [sizeAt, if_neg hlt]
   have hw3 := wrap_in (n := n + 0) (by omega) (by omega)
   have hle : (i : Int) ≤ (l.length : Int) := by omega

   by_cases h0 : 0 < i
   ·have g0 : (0 : Int) < (i : Int) := by omega
    by_cases h2 : most < n
    ·(try simp +decide -implicitDefEqProofs only [go_sem, h1, g0, h2, hg, g1, hle])
     refine stk_pure (clone_ok _ (l.take i) (by simp; omega)) fun v hv => ?_
     subst hv
     (try simp +decide -implicitDefEqProofs only [go_sem])
     refine aret_loose (f := false) (sz := 1) (rows := strRows (l.take i)) (.inr rfl) ?_ ?_
     ·simp +decide only [retOf, tget, if_true, if_false, ↓reduceIte]
     refine ⟨i, ⟨by omega, hns, fun _ => ⟨h0, .inl (by rw [← hnv]; exact h2)⟩⟩, rfl⟩
    ·have hw4 := wrap_in (n := most - n) (by omega) (by omega)
     by_cases h3 : most - n < 0
     ·(try simp +decide -implicitDefEqProofs only [go_sem, h1, g0, h2, h3, hw4, hg, g1, hle])
      refine stk_pure (clone_ok _ (l.take i) (by simp; omega)) fun v hv => ?_
      subst hv
      (try simp +decide -implicitDefEqProofs only [go_sem])
      refine aret_loose (f := false) (sz := 1) (rows := strRows (l.take i)) (.inr rfl) ?_ ?_
      ·simp +decide only [retOf, tget, if_true, if_false, ↓reduceIte]
      refine ⟨i, ⟨by omega, hns, fun _ => ⟨h0, .inr (by rw [← hnv, hse]; exact h3)⟩⟩, rfl⟩
     ·(try simp +decide -implicitDefEqProofs only [go_sem, h1, g0, h2, h3, hw4, hw, hw3, hg, g1, hle])
      exact ⟨by omega, n + 0, Weak.list _ (Sub.refl _) (by (try simp +decide -implicitDefEqProofs only [go_sem])), by rw [sumTo, hnv, hse], ShortNot.step hns fun h => by rcases h with ⟨_, h | h⟩; exact h2 (by rw [hnv]; exact h); exact h3 (by rw [hnv, ← hse]; exact h)⟩
   ·have g0 : ¬ (0 : Int) < (i : Int) := by omega
    (try simp +decide -implicitDefEqProofs only [go_sem, h1, g0, hw, hw3, hg, g1, hle])
    exact ⟨by omega, n + 0, Weak.list _ (Sub.refl _) (by (try simp +decide -implicitDefEqProofs only [go_sem])), by rw [sumTo, hnv, hse], ShortNot.step hns fun h => absurd h.1 h0⟩
 ·have h1 : ¬ (i : Int) < (l.length : Int) := by omega
  (try simp +decide -implicitDefEqProofs only [go_sem, h1])
  refine stk_pure (clone_ok f l (by omega)) fun v hv => ?_
  subst hv
  (try simp +decide -implicitDefEqProofs only [go_sem])
  refine aret_loose (f := false) (sz := 1) (rows := strRows l) (.inr rfl) ?_ ?_
  ·simp +decide only [retOf, tget, if_true, if_false, ↓reduceIte]
  ·exact ⟨i, ⟨by omega, hns, fun h => absurd h hil⟩, by rw [List.take_of_length_le (by omega)]⟩
end Go.Proofs.YtfaodacmdlnabaaGreatDoor.M
