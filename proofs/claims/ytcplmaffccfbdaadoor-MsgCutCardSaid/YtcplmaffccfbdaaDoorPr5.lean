/-
  The document's own Text of layer 8; the law PolicyTexts: walked.
-/
import Derived.Test.YtcplmaffccfbdaaDoorPr4
namespace Go.Proofs.YtcplmaffccfbdaaDoor.M
open Go.RowKit
set_option linter.unusedVariables false
set_option linter.unusedSimpArgs false
theorem line4_bl (a b c d : Str) : bl (lineS [a, b, c, d]) = bl a ++ (32 :: (bl b ++ (32 :: (bl c ++ (32 :: (bl d ++ [10])))))) := by
  unfold lineS
  rw [bl_app]
  have : bl (joinS [a, b, c, d] spS) = bl a ++ (32 :: (bl b ++ (32 :: (bl c ++ (32 :: bl d))))) := by
    show (Lib.join [bl a, bl b, bl c, bl d] (bl spS)).toArray.toList = _
    simp [Lib.join, List.intercalate, List.intersperse, bl, spS]
  rw [this]
  simp only [List.append_assoc, List.cons_append]
  rfl
def rtextP (p : Pol) : Str := (((((((((((((((⟨#[101, 112, 111, 99, 104, 32]⟩ : Str) ++ itoaS p.epoch : Str) ++ (⟨#[10]⟩ : Str) : Str) ++ linesS (⟨#[101, 108, 101, 109]⟩ : Str) ByteArray.empty p.elems : Str) ++ linesS (⟨#[97, 116, 116, 114]⟩ : Str) ByteArray.empty p.attrs : Str) ++ linesS (⟨#[115, 99, 104, 101, 109, 101]⟩ : Str) ByteArray.empty p.schemes : Str) ++ linesS (⟨#[99, 108, 97, 115, 115]⟩ : Str) ByteArray.empty p.classes : Str) ++ linesS (⟨#[112, 114, 111, 112]⟩ : Str) ByteArray.empty p.props : Str) ++ (⟨#[99, 97, 112, 115, 32]⟩ : Str) : Str) ++ itoaS p.depth : Str) ++ (⟨#[32]⟩ : Str) : Str) ++ itoaS p.nodes : Str) ++ (⟨#[32]⟩ : Str) : Str) ++ itoaS p.bytes : Str) ++ (⟨#[10]⟩ : Str) : Str)
theorem rtextP_eq (p : Pol) : rtextP p = textP p := by
  have e : textP p = (((((((ByteArray.empty ++ lineS [(⟨#[101, 112, 111, 99, 104]⟩ : Str), itoaS p.epoch] : Str) ++ linesS (⟨#[101, 108, 101, 109]⟩ : Str) ByteArray.empty p.elems : Str) ++ linesS (⟨#[97, 116, 116, 114]⟩ : Str) ByteArray.empty p.attrs : Str) ++ linesS (⟨#[115, 99, 104, 101, 109, 101]⟩ : Str) ByteArray.empty p.schemes : Str) ++ linesS (⟨#[99, 108, 97, 115, 115]⟩ : Str) ByteArray.empty p.classes : Str) ++ linesS (⟨#[112, 114, 111, 112]⟩ : Str) ByteArray.empty p.props : Str) ++ lineS [(⟨#[99, 97, 112, 115]⟩ : Str), itoaS p.depth, itoaS p.nodes, itoaS p.bytes] : Str) := by
    show linesS (⟨#[112, 114, 111, 112]⟩ : Str) (linesS (⟨#[99, 108, 97, 115, 115]⟩ : Str) (linesS (⟨#[115, 99, 104, 101, 109, 101]⟩ : Str) (linesS (⟨#[97, 116, 116, 114]⟩ : Str) (linesS (⟨#[101, 108, 101, 109]⟩ : Str) (ByteArray.empty ++ lineS [(⟨#[101, 112, 111, 99, 104]⟩ : Str), itoaS p.epoch]) p.elems) p.attrs) p.schemes) p.classes) p.props ++ _ = _
    rw [lines_app (⟨#[112, 114, 111, 112]⟩ : Str), lines_app (⟨#[99, 108, 97, 115, 115]⟩ : Str), lines_app (⟨#[115, 99, 104, 101, 109, 101]⟩ : Str), lines_app (⟨#[97, 116, 116, 114]⟩ : Str), lines_app (⟨#[101, 108, 101, 109]⟩ : Str)]
  rw [e]
  apply bl_inj
  unfold rtextP
  simp only [bl_app, line_bl, line4_bl, List.append_assoc, List.cons_append, List.nil_append]
  rfl
end Go.Proofs.YtcplmaffccfbdaaDoor.M
