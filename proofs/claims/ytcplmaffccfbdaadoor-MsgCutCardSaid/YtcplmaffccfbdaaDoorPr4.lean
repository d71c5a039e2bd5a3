/-
  The document's own decimal, lines and Text of layer 8, walked.
-/
import Derived.Test.YtcplmaffccfbdaaDoorPr3
namespace Go.Proofs.YtcplmaffccfbdaaDoor.M
open Go.RowKit
set_option linter.unusedVariables false
set_option linter.unusedSimpArgs false
def digS (d : Nat) : Str := ⟨#[UInt8.ofNat (48 + d)]⟩
theorem digS_bytes {d : Nat} (h : d < 10) : [[AVal.v (.int .u8 (48 + (d : Int)))]] = bytesOf (digS d) := by
  have h1 : (48 + d) % 256 = 48 + d := by omega
  simp only [bytesOf, digS, List.map_cons, List.map_nil, UInt8.toNat_ofNat', h1, Int.natCast_add]
  rfl
theorem u8_in {n : Int} (h1 : 0 ≤ n) (h2 : n ≤ 255) : IntKind.u8.wrap n = n := by rw [IntKind.wrap_u8]; omega
theorem dec_step {m : Nat} (h : ¬ m < 10) : Lib.decDigits m = Lib.decDigits (m / 10) ++ bl (digS (m % 10)) := by
  rw [Lib.decDigits, dif_neg h]; rfl
theorem dec_end {m : Nat} (h : m < 10) : Lib.decDigits m = bl (digS m) := by
  rw [Lib.decDigits_one h]; rfl
theorem bl_itoa (n : Nat) : bl (itoaS (n : Int)) = Lib.decDigits n := by
  unfold itoaS bl Lib.itoa
  rw [if_neg (by omega)]
  simp
theorem line_bl (a b : Str) : bl (lineS [a, b]) = bl a ++ (32 :: (bl b ++ [10])) := by
  unfold lineS
  rw [bl_app]
  have : bl (joinS [a, b] spS) = bl a ++ (32 :: bl b) := by
    show (Lib.join [bl a, bl b] (bl spS)).toArray.toList = _
    simp [Lib.join, List.intercalate, List.intersperse, bl, spS]
  rw [this, List.append_assoc]
  rfl
theorem lines_app (hd t : Str) (l : List Str) : linesS hd t l = t ++ linesS hd ByteArray.empty l := by
  have key : ∀ (l : List Str) (t u : Str), linesS hd (t ++ u) l = t ++ linesS hd u l := by
    intro l
    induction l with
    | nil => intro t u; rfl
    | cons s l ih =>
      intro t u
      show linesS hd (t ++ u ++ lineS [hd, s]) l = t ++ linesS hd (u ++ lineS [hd, s]) l
      rw [ByteArray.append_assoc, ih]
  have := key l t ByteArray.empty
  rw [ByteArray.append_empty] at this
  exact this
end Go.Proofs.YtcplmaffccfbdaaDoor.M
