/-
  versoref04: which elements are blocks.
-/
import Derived.Test.YtidicfdcjoggpaaDomRefNames
namespace Go.Proofs.Ytidicfdcjoggpaa
open Go.RowKit
set_option linter.unusedVariables false
set_option linter.unusedSimpArgs false
set_option maxHeartbeats 2000000 in
theorem refBlock_any (w : World) (name : ByteArray) : Calls Try.prog 20 #[.string name] w fun e w' => BoolIs (isBlock name) e ∧ Upd None w w' := by
  have he : isBlock name = decide (name ∈ bs blocks) := anyOf_mem _ _
  rw [he]
  clear he
  go_enter Try.func20, Try.ntmps20
  go_wp2_with (go_at_call 34; refine (has4_any _ _ _ (bs blocks) name (made_strs (n := 27) (xs := bs blocks) rfl (heap_alloc_at rfl) (by simp only [bs, voids, blocks, List.map_cons, List.map_nil]) (by omega))).mono ?_; rintro e w' ⟨rfl, rfl⟩)
  go_ret
  exact ⟨rfl, by repeat (first | with_reducible exact Upd.refl _ _ | (with_reducible refine Upd.drewN ?_ _) | (with_reducible refine Upd.drew ?_) | (with_reducible refine Upd.alloc ?_ _))⟩
end Go.Proofs.Ytidicfdcjoggpaa
