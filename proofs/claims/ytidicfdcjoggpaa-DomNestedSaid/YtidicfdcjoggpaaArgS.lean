/-
  A law's arguments that are lists of texts or of numbers, as plain lists.
-/
import Derived.Test.YtidicfdcjoggpaaProg
import Derived.Test.YtidicfdcjoggpaaMV
namespace Go.Proofs.Ytidicfdcjoggpaa.M
open Go.RowKit Go.ChangeShapes Go.WideShapes
variable {H : Type} {enc : TypeId × Value → H} {w : World} {spare : Nat → Bool} {held : Bool} {v : Value} {d : DataW H} {p : List MemPlace} {r : Reach} {b0 : Nat}
theorem arg_strs (hv : Value.okWide Try.prog w r b0 35 v) (h : DataW.Trod enc Try.prog w 0 spare held 35 v d p) : ∃ xs : List Str, VR (Old w) w (.sl false 1 (xs.map strRow)) v :=
  arg_rows (sz := 1) Try.underlying35 (fun _ => areads_slice (sz := 1) Try.underlying35 (by kernel_rfl) (by decide) (fun _ _ => areads_str Try.underlying9)) hv h
end Go.Proofs.Ytidicfdcjoggpaa.M
