/-
 The rows of this seat that list seven variables: what they hold at the call.
-/
import Derived.Test.YtfaodacmdlnabaaGreatDoorProw
import Derived.Test.YtfaodacmdlnabaaGreatDoorPatoi
import Derived.Lay
namespace Go.Proofs.YtfaodacmdlnabaaGreatDoor
open Go.ChangeShapes Go.WideShapes Go.ChangeAt Go.RowKit
set_option linter.unusedVariables false
set_option linter.unusedSimpArgs false
def laid7 : List (String × DataW Unit) := [("math/bits.deBruijn32tab", Rows.laid_math_bits_deBruijn32tab), ("math/bits.deBruijn64tab", Rows.laid_math_bits_deBruijn64tab), ("internal/strconv.uint64pow10", Rows.laid_internal_strconv_uint64pow10), ("unicode/utf8.acceptRanges", Rows.laid_unicode_utf8_acceptRanges), ("strconv.ErrRange", Rows.laid_strconv_ErrRange), ("strconv.ErrSyntax", Rows.laid_strconv_ErrSyntax), ("unicode/utf8.first", Rows.laid_unicode_utf8_first)]
theorem door_met7 (os : Os) (args : Array Value) : laidMetH Tryz.prog laid7 ((World.laidAll Tryz.prog os laid7).forCall (fun _ _ => 0) ⟨#[], args, []⟩).memory := by
 rw [MakeChecks.laidMetH_plain _ _ _ (by kernel_rfl)]
 exact laidMet_laidAll _ (by kernel_rfl) (by kernel_rfl)
theorem shaped7 (os : Os) : (World.laidAll Tryz.prog os laid7).Shaped Tryz.prog := World.shaped_of_ZipB (by kernel_rfl) (by kernel_rfl)
theorem err_of {H : Type} {enc : TypeId × Value → H} {W : World} {n : String} {g : Nat} {t : TypeId} {ms : Array (String × TypeId)} {cs : Array Value} {fuel : Nat} {sp : Nat → Bool} {nm : String} {d : DataW H} {p : List MemPlace} (hg : Tryz.prog.globalNamed n = some g) (hv : World.var? Tryz.prog W n = some cs) (ht : Tryz.prog.underlying t = some (.interface ms))
  (hd : DataW.trod enc Tryz.prog W 0 sp false fuel t cs.toList = some (.iface nm d, p)) : ∃ ev, W.cell? ⟨g, 0, none⟩ = some ev ∧ (ev = .nilIface ∨ ∃ te pe, ev = .iface te pe) := by
 obtain ⟨_, u, v, hcs, _, _⟩ := iface_of_trod ht hd
 refine ⟨.iface u v, ?_, .inr ⟨u, v, rfl⟩⟩
 rw [World.var?_cell hg hv 0, ← Array.getElem?_toList, hcs]
 rfl
theorem laid_of7 {W : World} (h : laidMetH Tryz.prog laid7 W) (hs : W.ShapedOpen Tryz.prog) : M.Laid W ∧ M.Errs W := by
 rw [MakeChecks.laidMetH_plain _ _ _ (by kernel_rfl)] at h
 obtain ⟨ps, ⟨g0, t0, cs0, f0, p0, q0, hg0, ht0, hv0, hd0, ⟨g1, t1, cs1, f1, p1, q1, hg1, ht1, hv1, hd1, ⟨g2, t2, cs2, f2, p2, q2, hg2, ht2, hv2, hd2, ⟨g3, t3, cs3, f3, p3, q3, hg3, ht3, hv3, hd3, ⟨g4, t4, cs4, f4, p4, q4, hg4, ht4, hv4, hd4, ⟨g5, t5, cs5, f5, p5, q5, hg5, ht5, hv5, hd5, _⟩, _⟩, _⟩, _⟩, _⟩, _⟩, _, _⟩ := h
 refine ⟨⟨?_, ?_⟩, ⟨?_, ?_⟩⟩
 ·have hg : Tryz.prog.globalNamed "internal/strconv.uint64pow10" = some 3 := by kernel_rfl
  have hgt : (Tryz.prog.globals[3]?).map (·.type) = some 240 := by kernel_rfl
  obtain rfl := Option.some.inj (hg.symm.trans hg2)
  obtain rfl := Option.some.inj (hgt.symm.trans ht2)
  unfold Lib.TabIs
  rw [hv2, ← Lib.cells_of_tab (k := .u64) (zs := Lib.pow10Tab) Tryz.underlying240 Tryz.underlying189 (by kernel_rfl) (by kernel_rfl) hd2]
 ·exact cell_of_shapedOpen_int (g := 0) (zero := #[.int .i64 0]) hs (of_decide_eq_true (by kernel_rfl)) (by kernel_rfl) rfl (by kernel_rfl) (by kernel_rfl) Tryz.underlying3
 ·have hg : Tryz.prog.globalNamed "strconv.ErrSyntax" = some 1 := by kernel_rfl
  have hgt : (Tryz.prog.globals[1]?).map (·.type) = some 49 := by kernel_rfl
  obtain rfl := Option.some.inj (hg.symm.trans hg5)
  obtain rfl := Option.some.inj (hgt.symm.trans ht5)
  exact err_of hg hv5 Tryz.underlying49 hd5
 ·have hg : Tryz.prog.globalNamed "strconv.ErrRange" = some 2 := by kernel_rfl
  have hgt : (Tryz.prog.globals[2]?).map (·.type) = some 49 := by kernel_rfl
  obtain rfl := Option.some.inj (hg.symm.trans hg4)
  obtain rfl := Option.some.inj (hgt.symm.trans ht4)
  exact err_of hg hv4 Tryz.underlying49 hd4
end Go.Proofs.YtfaodacmdlnabaaGreatDoor
