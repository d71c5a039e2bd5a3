/-
  The tree builder of package dom: the place of the innermost element of some names.
-/
import Derived.Test.YtidicfdcjoggpaaDomShut
import Derived.Test.YtidicfdcjoggpaaSlices
namespace Go.Proofs.Ytidicfdcjoggpaa
open Go.RowKit
set_option linter.unusedVariables false
set_option linter.unusedSimpArgs false
/-- The place of the innermost element of some names, of a stack (the innermost first; the last one is the tree itself); 0: none. -/
def innerP (names : List Str) : List El → Nat
  | [] => 0
  | [_] => 0
  | t :: u :: s => if t.name ∈ names then (u :: s).length else innerP names (u :: s)
theorem innerP_take (names : List Str) (els : List El) (k : Nat) (hk : 0 < k) (h : k < els.length) : innerP names (els.take (k + 1)).reverse = if els[k].name ∈ names then k else innerP names (els.take k).reverse := by
  rw [List.take_succ_eq_append_getElem h, List.reverse_append]
  have hl : (els.take k).length = k := by rw [List.length_take]; omega
  cases e : (els.take k).reverse with
  | nil => have := congrArg List.length e; rw [List.length_reverse, hl] at this; simp at this; omega
  | cons u s =>
    have : (u :: s).length = k := by rw [← e, List.length_reverse, hl]
    simp only [List.reverse_cons, List.reverse_nil, List.nil_append, List.singleton_append, innerP, this]
theorem innerP_zero (names : List Str) (els : List El) (h : 0 < els.length) : innerP names (els.take 1).reverse = 0 := by
  cases els with
  | nil => simp at h
  | cons a t => simp [innerP]
set_option maxHeartbeats 1000000 in
theorem inner_bld {w : World} {B bb ob cap : Nat} {gs : List Gh} {many : Int} {over : Bool} (h : BldG w B bb ob cap gs many over) (hn : 0 < gs.length) (hn2 : gs.length ≤ 10000) (P : FP) (v : Value) (names : List Str) (hv : SliceIs w P v names) (hl : names.length ≤ 1000000) :
    Calls Try.prog 40 #[.pointer (some ⟨bb, 0, none⟩), v] w fun e w' => IntIs (innerP names (gs.map (·.el)).reverse) e ∧ w = w' := by
  obtain ⟨cur, hcur, hBo, hnc, hcm, hcs, htake⟩ := h.cur
  obtain ⟨A, c, rfl, _⟩ := hv.shape
  have hg : ∀ i (hi : i < gs.length), w.cell? ⟨ob, i * 5 + 4, none⟩ = some (.string gs[i].el.name) := fun i hi => by rw [cell_of_row w ob _ _ _ _ hcur]; exact h.get htake hi rfl
  have b0 : w.cell? ⟨bb, 0, none⟩ = some (.slice (some ⟨ob, 0, none⟩) gs.length cap) := by rw [cell_of_row w bb _ _ _ _ h.blk]; rfl
  clear h htake hcur hcs hcm hnc
  have HV := Lib.hid hv
  clear hv
  have HG := Lib.hid hg
  clear hg
  go_enter Try.func40, Try.ntmps40
  go_wp2
  go_step3
  go_wp2
  go_step3
  go_wp2
  go_loop [5, 6] (fun a5 a6 => ∃ k : Nat, k < gs.length ∧ a6 = .int .i64 k ∧ a5 = .int .i64 0 ∧ Hid (innerP names (gs.map (·.el)).reverse = innerP names ((gs.map (·.el)).take (k + 1)).reverse)) (fun _ a6 => (intOf a6).toNat)
  case atStart => exact ⟨gs.length - 1, by omega, by rw [show ((gs.length - 1 : Nat) : Int) = (gs.length : Int) - 1 by omega], rfl, by rw [List.take_of_length_le (by simp; omega)]; exact rfl⟩
  case round =>
    obtain ⟨k, hk, rfl, rfl, hR⟩ := hrel
    by_cases hk0 : 0 < k
    · have h4 := HG.out k hk
      have hi1 : (0 : Int) ≤ (k : Int) := by omega
      have hi2 : (k : Int) < (gs.length : Int) := by omega
      by_cases hm : gs[k].el.name ∈ names
      · have hd : decide (gs[k].el.name ∈ names) = true := decide_eq_true hm
        have HM := Lib.hid hm
        clear hm
        go_wp2_with (go_at_call 46; refine (contains_any _ P _ names _ HV.out (by omega)).mono ?_; rintro e w' ⟨rfl, rfl⟩)
        (try rw [Exit.noGoto_ret])
        go_ret
        exact ⟨by show IntIs _ _; rw [hR.out, innerP_take _ _ _ hk0 (by simpa using hk), if_pos (by simpa using HM.out)]; rfl, rfl⟩
      · have hd : decide (gs[k].el.name ∈ names) = false := decide_eq_false hm
        have HM := Lib.hid hm
        clear hm
        go_wp2_with (go_at_call 46; refine (contains_any _ P _ names _ HV.out (by omega)).mono ?_; rintro e w' ⟨rfl, rfl⟩)
        go_round
        case rel => exact ⟨k - 1, by omega, by rw [show ((k - 1 : Nat) : Int) = (k : Int) - 1 by omega], rfl, by unfold Hid; rw [hR.out, innerP_take _ _ _ hk0 (by simpa using hk), if_neg (by simpa using HM.out), show k - 1 + 1 = k by omega]⟩
        case measure => simp [intOf]; omega
    · go_wp2
      (try rw [Exit.noGoto_ret])
      go_ret
      exact ⟨by show IntIs _ _; rw [hR.out, show k = 0 by omega, innerP_zero _ _ (by simpa using hn)]; rfl, rfl⟩
end Go.Proofs.Ytidicfdcjoggpaa
