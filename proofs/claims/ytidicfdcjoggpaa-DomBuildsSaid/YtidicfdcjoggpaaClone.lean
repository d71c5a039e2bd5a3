/-
  The library's slices.Clone, at the types that this seat's program calls it at.
-/
import Derived.Test.YtidicfdcjoggpaaData
import Derived.Maps.AppendAt
import Derived.WalkSpells
namespace Go.Proofs.Ytidicfdcjoggpaa
open Go.RowKit
set_option linter.unusedVariables false
set_option linter.unusedSimpArgs false
instance : Flat Attr := ⟨fun h => h⟩
theorem infoAttr : (Try.prog.info? 71).map (fun i => (i.zero, i.size, i.bytes)) = some (some (.agg #[.string ByteArray.empty, .string ByteArray.empty]), 2, 32) := by kernel_rfl
theorem underAttrs : Try.prog.underlying 31 = some (.slice 71) := by kernel_rfl
set_option maxHeartbeats 1000000 in
theorem cloneAttrs_any (w : World) (P : FP) (v : Value) (xs : List Attr) (h : SliceIs w P v xs) (hl : xs.length ≤ 1000000000) :
    Calls Try.prog 41 #[v] w fun e w' => ∃ v', e = .returned v' ∧ SliceIs w' (fun b => w.heap.size ≤ b ∧ b < w'.heap.size) v' xs ∧ Upd None w w' := by
  obtain ⟨i0, hi, hz0, hz1, hz2⟩ := info_parts infoAttr
  by_cases hn : 0 < xs.length
  · obtain ⟨b, o, c, cs, rfl, hb, hc, hx⟩ := h.flat hn
    have hq := fun (W : World) => Lib.run_eql_slice_nil (P := Try.prog) W 31 71 (some ⟨b, o, none⟩) xs.length c 0 0 underAttrs
    go_enter Try.func41, Try.ntmps41
    go_wp2_with (at_builtin; refine wpList_append_own_at _ rfl _ _ _ rfl w.heap.size 71 i0 _ 2 32 underAttrs hi hz0 hz1 hz2 rfl (by omega) _ 0 [] (by rfl) ⟨rfl, .inr ⟨w.heap.size, 0, #[], rfl, Nat.le_refl _, heap_alloc_at rfl, Nat.le_refl _, Nat.zero_le _, rfl, rfl⟩⟩ ⟨b, o, none⟩ xs.length c cs (by rfl) (by rw [hc.len]; rfl) (fun j u hu => Upd.cellp (M := None) (by repeat (first | with_reducible exact Upd.refl _ _ | (with_reducible refine Upd.drewN ?_ _) | (with_reducible refine Upd.drew ?_) | (with_reducible refine Upd.alloc ?_ _))) (hx j u hu) id) hc.one (by unfold maxLen; omega) (by omega) (by simp) ?_; intro v' w' hown hgrow _ hat)
    go_ret
    have hown2 : w'.ownsRow w.heap.size 71 2 v' xs.length cs := by simpa using hown
    exact ⟨v', rfl, own_flat hown2 rfl hc, Upd.grown (by repeat (first | with_reducible exact Upd.refl _ _ | (with_reducible refine Upd.drewN ?_ _) | (with_reducible refine Upd.drew ?_) | (with_reducible refine Upd.alloc ?_ _))) hgrow (fun k hk => by cases hk; exact .inr (Nat.le_refl _))⟩
  · have hx0 : xs.length = 0 := by omega
    obtain ⟨A, c, rfl, _⟩ := h.shape
    obtain rfl : xs = [] := List.length_eq_zero_iff.1 hx0
    clear h hn hx0 hl
    cases A with
    | none =>
      have hq := fun (W : World) => Lib.run_eql_slice_nil (P := Try.prog) W 31 71 none 0 c 0 0 underAttrs
      go_enter Try.func41, Try.ntmps41
      go_wp2
      go_ret
      exact ⟨_, rfl, SliceIs.nil _ _, Upd.refl _ _⟩
    | some ad =>
      have hq := fun (W : World) => Lib.run_eql_slice_nil (P := Try.prog) W 31 71 (some ad) 0 c 0 0 underAttrs
      go_enter Try.func41, Try.ntmps41
      go_wp2_with (at_builtin; refine wpList_append_own_at _ rfl _ _ _ rfl w.heap.size 71 i0 _ 2 32 underAttrs hi hz0 hz1 hz2 rfl (by omega) _ 0 [] (by rfl) ⟨rfl, .inr ⟨w.heap.size, 0, #[], rfl, Nat.le_refl _, heap_alloc_at rfl, Nat.le_refl _, Nat.zero_le _, rfl, rfl⟩⟩ ad 0 c [] (by rfl) rfl (by simp) (by simp) (by unfold maxLen; omega) (by omega) (by simp) ?_; intro v' w' hown hgrow _ hat)
      go_ret
      have hown2 : w'.ownsRow w.heap.size 71 2 v' 0 [] := by simpa using hown
      exact ⟨v', rfl, own_flat (w0 := w) (P := P) hown2 rfl rfl, Upd.grown (by repeat (first | with_reducible exact Upd.refl _ _ | (with_reducible refine Upd.drewN ?_ _) | (with_reducible refine Upd.drew ?_) | (with_reducible refine Upd.alloc ?_ _))) hgrow (fun k hk => by cases hk; exact .inr (Nat.le_refl _))⟩
end Go.Proofs.Ytidicfdcjoggpaa
