/-
  The law DomNames walked: whatever the name, both sides name the same void elements and the same blocks.
-/
import Derived.Test.YtidicfdcjoggpaaDomRefBlock
import Derived.Test.YtidicfdcjoggpaaDomAwake
namespace Go.Proofs.Ytidicfdcjoggpaa
open Go.RowKit
set_option linter.unusedVariables false
set_option linter.unusedSimpArgs false
set_option maxHeartbeats 2000000 in
theorem domNames_walk (a : ByteArray) (w : World) (ha : a.size ≤ maxLen) : Calls Try.prog 4 #[.string a] w fun e w' => e = .returned (.bool true) ∧ Below w.heap.size w w' := by
  have HA := Lib.hid ha
  unfold maxLen at ha
  by_cases hl : (a.size : Int) > 200
  · go_enter Try.func4, Try.ntmps4
    go_wp2_with fail
    refine (awake_any _).mono ?_
    rintro e w1 ⟨rfl, hu⟩
    have HU := Lib.hid hu
    clear hu
    go_wp2
    go_ret
    exact ⟨rfl, HU.out.below⟩
  · go_enter Try.func4, Try.ntmps4
    go_wp2_with fail
    refine (awake_any _).mono ?_
    rintro e w1 ⟨rfl, hu⟩
    have HU := Lib.hid hu
    clear hu
    go_wp2_with fail
    refine (void_any _ _).mono ?_
    rintro e w' ⟨rfl, rfl⟩
    go_wp2_with fail
    refine (refVoid_any _ _).mono ?_
    rintro e w2 ⟨rfl, hu⟩
    have HU2 := Lib.hid (HU.out.trans hu (fun _ _ h => h))
    clear hu HU
    go_wp2_with fail
    refine (block_any _ _).mono ?_
    rintro e w' ⟨rfl, rfl⟩
    go_wp2_with fail
    refine (refBlock_any _ _).mono ?_
    rintro e w3 ⟨rfl, hu⟩
    have HU3 := Lib.hid (HU2.out.trans hu (fun _ _ h => h))
    clear hu HU2
    go_wp2
    go_ret
    exact ⟨by simp, HU3.out.below⟩
end Go.Proofs.Ytidicfdcjoggpaa
