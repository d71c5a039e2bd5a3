/-
  The tree builder of package dom: counting a node, closing the innermost element.
-/
import Derived.Test.YtidicfdcjoggpaaDomBld
namespace Go.Proofs.Ytidicfdcjoggpaa
open Go.RowKit
set_option linter.unusedVariables false
set_option linter.unusedSimpArgs false
attribute [local go_sem ↓] Go.wp_at_zero Go.wp_at_succ
set_option maxHeartbeats 1000000 in
theorem count_any (bb n cap : Nat) (A : Option Addr) (many : Int) (w : World) (h : w.heap[bb]? = some (.cells #[.slice A n cap, .int .i64 many, .bool false] 52 (0, 0))) (hn : 0 < n) (hn2 : n ≤ 100000) (hm : 0 ≤ many) (hm2 : many ≤ 100000) :
    Calls Try.prog 38 #[.pointer (some ⟨bb, 0, none⟩)] w fun e w' => e = .returned (.tuple #[]) ∧ w'.heap[bb]? = some (.cells #[.slice A n cap, .int .i64 (many + 1), .bool (decide (65 < n) || decide (2000 < many + 1))] 52 (0, 0)) ∧ Upd (fun b => b = bb) w w' := by
  have hbb := lt_of_block h
  have c0 : w.cell? ⟨bb, 0, none⟩ = some (.slice A n cap) := by rw [cell_of_row w bb _ _ _ _ h]; rfl
  have c1 : w.cell? ⟨bb, 1, none⟩ = some (.int .i64 many) := by rw [cell_of_row w bb _ _ _ _ h]; rfl
  have c2 : w.cell? ⟨bb, 2, none⟩ = some (.bool false) := by rw [cell_of_row w bb _ _ _ _ h]; rfl
  have f1 := frozen_of_row w bb 1 _ _ h
  have f2 := frozen_of_row w bb 2 _ _ h
  go_enter Try.func38, Try.ntmps38
  go_wp2
  have h1 := heap_setCell_same w bb 1 _ _ (.int .i64 (many + 1)) h
  have u1 : Upd (fun b => b = bb) w (w.setCell ⟨bb, 1, none⟩ (.int .i64 (many + 1))) := Upd.setCell (Upd.refl _ w) (by exact .inl rfl) _
  simp only [List.setIfInBounds_toArray, List.set_cons_zero, List.set_cons_succ] at h1
  generalize w.setCell ⟨bb, 1, none⟩ (.int .i64 (many + 1)) = w1 at h1 u1 ⊢
  clear c0 c1 c2 f1 f2
  have hbb1 := lt_of_block h1
  have c0 : w1.cell? ⟨bb, 0, none⟩ = some (.slice A n cap) := by rw [cell_of_row w1 bb _ _ _ _ h1]; rfl
  have c1 : w1.cell? ⟨bb, 1, none⟩ = some (.int .i64 (many + 1)) := by rw [cell_of_row w1 bb _ _ _ _ h1]; rfl
  have c2 : w1.cell? ⟨bb, 2, none⟩ = some (.bool false) := by rw [cell_of_row w1 bb _ _ _ _ h1]; rfl
  have f2 := frozen_of_row w1 bb 2 _ _ h1
  have hne : w1.heap.size ≠ bb := by omega
  by_cases hA : 65 < n <;> by_cases hB : 2000 < many + 1
  all_goals
    go_region_held3 (fun w' => w'.cell? ⟨bb, 0, none⟩ = some (.slice A n cap) ∧ w'.cell? ⟨bb, 1, none⟩ = some (.int .i64 (many + 1)) ∧ w'.cell? ⟨bb, 2, none⟩ = some (.bool false)) (go_keep) (fail)
    go_wp2
    go_end0
    refine ⟨rfl, ?_, (Upd.alloc (Upd.setCell u1 (by exact .inl rfl) _) _).drew.mono (fun _ _ h => h)⟩
    show (World.alloc (World.setCell w1 _ _) _).heap[bb]? = _
    rw [Below.heap_alloc _ _ _ (by simpa using hbb1), heap_setCell_same w1 bb 2 _ _ _ h1]
    simp [hA, hB]
end Go.Proofs.Ytidicfdcjoggpaa
