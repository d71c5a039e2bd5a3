/-
  The tree builder of package dom: a tag that ends an element.
-/
import Derived.Test.YtidicfdcjoggpaaDomText
namespace Go.Proofs.Ytidicfdcjoggpaa
open Go.RowKit
set_option linter.unusedVariables false
set_option linter.unusedSimpArgs false
def bBr : Str := (⟨#[98, 114]⟩ : ByteArray)
def endS (name : Str) (st : List El) (many : Int) : St :=
  if 0 < innerP [name] st then ⟨closeP name st, many, false⟩
  else if name = bP then ⟨closeP bP (startP bP [] st), many + 1, overP (startP bP [] st) (many + 1)⟩
  else if name = bBr then ⟨startP bBr [] st, many + 1, overP (startP bBr [] st) (many + 1)⟩
  else ⟨st, many, false⟩
theorem laid_szs (name : Str) (attrs : List Attr) (s : List El) : szs (laid name attrs s) ≤ szs s + 1 := by
  unfold laid
  split
  · cases s <;> simp [szs, El.add]; omega
  · simp [szs]; omega
theorem startP_szs (name : Str) (attrs : List Attr) (s : List El) : szs (startP name attrs s) ≤ szs s + 1 := by
  unfold startP
  exact Nat.le_trans (laid_szs _ _ _) (Nat.succ_le_succ (Nat.le_trans (afterLi_szs _ _) (afterBlock_szs _ _)))
theorem startP_pos (name : Str) (attrs : List Attr) (s : List El) (h : 0 < s.length) : 0 < (startP name attrs s).length := by
  unfold startP laid
  have := afterLi_pos name _ (afterBlock_pos name s h)
  split
  · cases e : afterLi name (afterBlock name s) with
    | nil => rw [e] at this; simp at this
    | cons a b => simp
  · simp
theorem closeP_none (name : Str) (s : List El) (h : ¬ 0 < innerP [name] s) : closeP name s = s := by unfold closeP; rw [if_pos (by omega)]
set_option maxHeartbeats 2000000 in
theorem end_any {w : World} {B bb : Nat} {st : List El} {many : Int} (name : Str) (h : BldS w B bb st many false) (h0 : 0 < st.length) (hz : szs st ≤ 8000) (hm : 0 ≤ many) (hm2 : many ≤ 9000) :
    Calls Try.prog 29 #[.pointer (some ⟨bb, 0, none⟩), .string name] w fun e w' => TupIs e ∧ Now w' B bb (endS name st many) ∧ Below B w w' := by
  obtain ⟨a, ha⟩ : ∃ a, a = decide (0 < innerP [name] st) := ⟨_, rfl⟩
  have hcl := close_any name h h0 (by omega)
  rw [← ha] at hcl
  have HC := Lib.hid hcl; have HA := Lib.hid ha
  clear hcl ha h
  cases a with
  | true =>
    have hfin : endS name st many = ⟨closeP name st, many, false⟩ := by unfold endS; rw [if_pos (of_decide_eq_true HA.out.symm)]
    have HF := Lib.hid hfin
    clear hfin
    go_enter Try.func29, Try.ntmps29
    go_wp2_with (go_at_call 39; refine HC.out.mono ?_; rintro e w1 ⟨rfl, h1, hB1⟩; have H1 := Lib.hid h1; have HB1 := Lib.hid hB1; clear h1 hB1)
    ((try simp only [Exit.inBlock, Exit.then]); refine bodyPost_ret (results_none rfl _ _ _) rfl ?_)
    exact ⟨rfl, by rw [HF.out]; exact H1.out, HB1.out⟩
  | false =>
    have hno : ¬ 0 < innerP [name] st := of_decide_eq_false HA.out.symm
    rw [closeP_none name st hno] at HC
    by_cases hp : name = bP
    · have hfin : endS name st many = ⟨closeP bP (startP bP [] st), many + 1, overP (startP bP [] st) (many + 1)⟩ := by unfold endS; rw [if_neg hno, if_pos hp]
      have HF := Lib.hid hfin
      have hq1 := startP_pos bP [] st h0
      have hq2 : szs (startP bP [] st) ≤ 10000 := Nat.le_trans (startP_szs bP [] st) (by omega)
      have e1 : (name.toList == [112]) = true := lit_true hp
      have HPP := Lib.hid hp
      clear hfin hno hp
      go_enter Try.func29, Try.ntmps29
      go_wp2_with (go_at_call 39; refine HC.out.mono ?_; rintro e w1 ⟨rfl, h1, hB1⟩; have H1 := Lib.hid h1; have HB1 := Lib.hid hB1; clear h1 hB1)
      refine (start_any name [] _ H1.out h0 (by omega) hm hm2 (SliceIs.nil _ _) (by simp)).mono ?_
      rintro e w2 ⟨rfl, h2, hB2⟩
      rw [HPP.out] at h2
      have H2 := Lib.hid h2; have HB2 := Lib.hid hB2
      clear h2 hB2
      go_wp2_with (go_at_call 39; refine (close_any name H2.out hq1 hq2).mono ?_; rintro e w3 ⟨rfl, h3, hB3⟩; have H4 := Lib.hid h3; have HB4 := Lib.hid hB3; clear h3 hB3)
      go_end0
      exact ⟨rfl, by rw [HF.out]; have := H4.out; rw [HPP.out] at this; exact this, HB1.out.trans (HB2.out.trans HB4.out)⟩
    · have e1 : (name.toList == [112]) = false := lit_false hp
      by_cases hr : name = bBr
      · have hfin : endS name st many = ⟨startP bBr [] st, many + 1, overP (startP bBr [] st) (many + 1)⟩ := by unfold endS; rw [if_neg hno, if_neg hp, if_pos hr]
        have HF := Lib.hid hfin
        have e2 : (name.toList == [98, 114]) = true := lit_true hr
        have HPP := Lib.hid hr
        clear hfin hno hp hr
        go_enter Try.func29, Try.ntmps29
        go_wp2_with (go_at_call 39; refine HC.out.mono ?_; rintro e w1 ⟨rfl, h1, hB1⟩; have H1 := Lib.hid h1; have HB1 := Lib.hid hB1; clear h1 hB1)
        refine (start_any name [] _ H1.out h0 (by omega) hm hm2 (SliceIs.nil _ _) (by simp)).mono ?_
        rintro e w2 ⟨rfl, h2, hB2⟩
        rw [HPP.out] at h2
        have H2 := Lib.hid h2; have HB2 := Lib.hid hB2
        clear h2 hB2
        go_wp2
        go_end0
        exact ⟨rfl, by rw [HF.out]; exact H2.out, HB1.out.trans HB2.out⟩
      · have hfin : endS name st many = ⟨st, many, false⟩ := by unfold endS; rw [if_neg hno, if_neg hp, if_neg hr]
        have HF := Lib.hid hfin
        have e2 : (name.toList == [98, 114]) = false := lit_false hr
        clear hfin hno hp hr
        go_enter Try.func29, Try.ntmps29
        go_wp2_with (go_at_call 39; refine HC.out.mono ?_; rintro e w1 ⟨rfl, h1, hB1⟩; have H1 := Lib.hid h1; have HB1 := Lib.hid hB1; clear h1 hB1)
        go_end0
        exact ⟨rfl, by rw [HF.out]; exact H1.out, HB1.out⟩
end Go.Proofs.Ytidicfdcjoggpaa
