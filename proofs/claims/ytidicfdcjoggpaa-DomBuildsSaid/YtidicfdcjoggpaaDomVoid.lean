/-
  Which elements are void, which are blocks.
-/
import Derived.Test.YtidicfdcjoggpaaLib
namespace Go.Proofs.Ytidicfdcjoggpaa
open Go.RowKit
set_option linter.unusedVariables false
set_option linter.unusedSimpArgs false
def anyOf (l : List (List UInt8)) (s : ByteArray) : Bool := l.any (fun x => s.data.toList == x)
theorem anyOf_nil (s : ByteArray) : anyOf [] s = false := rfl
theorem anyOf_cons (x : List UInt8) (l : List (List UInt8)) (s : ByteArray) : anyOf (x :: l) s = ((s.toList == x) || anyOf l s) := by rw [ByteArray.toList_eq]; rfl
def voids : List (List UInt8) := [[97, 114, 101, 97], [98, 97, 115, 101], [98, 114], [99, 111, 108], [101, 109, 98, 101, 100], [104, 114], [105, 109, 103], [105, 110, 112, 117, 116], [108, 105, 110, 107], [109, 101, 116, 97], [112, 97, 114, 97, 109], [115, 111, 117, 114, 99, 101], [116, 114, 97, 99, 107], [119, 98, 114]]
def blocks : List (List UInt8) := [[97, 100, 100, 114, 101, 115, 115], [97, 114, 116, 105, 99, 108, 101], [97, 115, 105, 100, 101], [98, 108, 111, 99, 107, 113, 117, 111, 116, 101], [100, 105, 118], [100, 108], [102, 105, 101, 108, 100, 115, 101, 116], [102, 105, 103, 117, 114, 101], [102, 111, 111, 116, 101, 114], [102, 111, 114, 109], [104, 49], [104, 50], [104, 51], [104, 52], [104, 53], [104, 54], [104, 101, 97, 100, 101, 114], [104, 114], [108, 105], [109, 97, 105, 110], [110, 97, 118], [111, 108], [112], [112, 114, 101], [115, 101, 99, 116, 105, 111, 110], [116, 97, 98, 108, 101], [117, 108]]
def isVoid (s : ByteArray) : Bool := anyOf voids s
def isBlock (s : ByteArray) : Bool := anyOf blocks s
set_option maxHeartbeats 4000000 in
theorem void_any (name : ByteArray) (w : World) : Calls Try.prog 17 #[.string name] w fun e w' => BoolIs (isVoid name) e ∧ w = w' := by
  go_enter Try.func17, Try.ntmps17
  go_wp2
  all_goals first | (exfalso; simp_all; done) | (go_ret; exact ⟨by show BoolIs _ _; simp only [BoolIs, isVoid, voids, anyOf_cons, anyOf_nil, *]; rfl, rfl⟩)
set_option maxHeartbeats 4000000 in
theorem block_any (name : ByteArray) (w : World) : Calls Try.prog 19 #[.string name] w fun e w' => BoolIs (isBlock name) e ∧ w = w' := by
  go_enter Try.func19, Try.ntmps19
  go_wp2
  all_goals first | (exfalso; simp_all; done) | (go_ret; exact ⟨by show BoolIs _ _; simp only [BoolIs, isBlock, blocks, anyOf_cons, anyOf_nil, *]; rfl, rfl⟩)
end Go.Proofs.Ytidicfdcjoggpaa
