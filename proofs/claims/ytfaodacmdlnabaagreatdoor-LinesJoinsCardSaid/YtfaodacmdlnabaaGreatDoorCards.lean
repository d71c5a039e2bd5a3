/-
  DERIVED. GIVEN WITH THE SEED: THE CARDS: each row of YtfaodacmdlnabaaGreatDoorRows.lean that lists a variable, with what it lists TIED to the program's text (the seventh form; the later family's looks); each row that meets fmt, with fmt's text TOLD by the authors' own Lean function (tested against real Go, not proved from fmt's source: count such statements apart). THE CARD IS WHAT COUNTS. Prove the row's statement (the work); the ties are given (YtfaodacmdlnabaaGreatDoorTie.lean); close each card by the builder's one call (the guide's Derived/Test/ToyasCard.lean, 'card_holds'). Laid BY PROGRAM, IN A SANDBOX (cutbox-door.mjs). By AI agents, Wed Nov 11 2026. No macro, syntax, notation, axiom, sorry.
-/
import Derived.Test.YtfaodacmdlnabaaGreatDoorRows
import GoSem.ClaimSeven
namespace Go.Proofs.YtfaodacmdlnabaaGreatDoor
namespace Rows

/-- THE TIED CARD OF 'versolaw20.LinesBack'. -/
def linesBackCard : Claim7 := { stood := { row := linesBackRow, standIns := [], harness := (true, "86f4c496e6335d2f0a25eed37ba6950d3f1303d0fb68c42f71f43e963f7b1f5e"), looks := true }, kinds := [], alts := [], laidByText := true, laidKinds := [.data, .data, .data, .data, .sentinel, .sentinel, .pinned], laidTests := true, laidLooks := .later }
def LinesBackCardSaid : Prop := Claim7.holds Tryz.pinned (.plain (OpenSpec.ofChange linesBackSpec)) linesBackCard

/-- THE TIED CARD OF 'versolaw20.LinesJoins'. -/
def linesJoinsCard : Claim7 := { stood := { row := linesJoinsRow, standIns := [], harness := (true, "86f4c496e6335d2f0a25eed37ba6950d3f1303d0fb68c42f71f43e963f7b1f5e"), looks := true }, kinds := [], alts := [], laidByText := true, laidKinds := [.data, .data, .data, .data, .sentinel, .sentinel, .pinned], laidTests := true, laidLooks := .later }
def LinesJoinsCardSaid : Prop := Claim7.holds Tryz.pinned (.plain (OpenSpec.ofChange linesJoinsSpec)) linesJoinsCard

/-- THE TIED CARD OF 'versolaw20.LinesParses'. -/
def linesParsesCard : Claim7 := { stood := { row := linesParsesRow, standIns := [], harness := (true, "86f4c496e6335d2f0a25eed37ba6950d3f1303d0fb68c42f71f43e963f7b1f5e"), looks := true }, kinds := [], alts := [], laidByText := true, laidKinds := [.data, .data, .data, .data, .sentinel, .sentinel, .pinned], laidTests := true, laidLooks := .later }
def LinesParsesCardSaid : Prop := Claim7.holds Tryz.pinned (.plain (OpenSpec.ofChange linesParsesSpec)) linesParsesCard

/-- THE TIED CARD OF 'versolaw20.LinesText'. -/
def linesTextCard : Claim7 := { stood := { row := linesTextRow, standIns := [], harness := (true, "86f4c496e6335d2f0a25eed37ba6950d3f1303d0fb68c42f71f43e963f7b1f5e"), looks := true }, kinds := [], alts := [], laidByText := true, laidKinds := [.data, .data, .data, .data, .sentinel, .sentinel, .pinned], laidTests := true, laidLooks := .later }
def LinesTextCardSaid : Prop := Claim7.holds Tryz.pinned (.plain (OpenSpec.ofChange linesTextSpec)) linesTextCard

/-- THE TIED CARD OF 'versolaw20.LinesTexts'. -/
def linesTextsCard : Claim7 := { stood := { row := linesTextsRow, standIns := [], harness := (true, "86f4c496e6335d2f0a25eed37ba6950d3f1303d0fb68c42f71f43e963f7b1f5e"), looks := true }, kinds := [], alts := [], laidByText := true, laidKinds := [.data, .data, .data, .data, .sentinel, .sentinel, .pinned], laidTests := true, laidLooks := .later }
def LinesTextsCardSaid : Prop := Claim7.holds Tryz.pinned (.plain (OpenSpec.ofChange linesTextsSpec)) linesTextsCard

/-- THE SECOND FORM's CARD OF 'versolaw20.LinesBack'. -/
def linesBackUptoCard : Claim7 := { stood := { row := linesBackUptoRow, standIns := [], harness := (true, "86f4c496e6335d2f0a25eed37ba6950d3f1303d0fb68c42f71f43e963f7b1f5e"), looks := true }, kinds := [], alts := [], laidByText := true, laidKinds := [.data, .data, .data, .data, .sentinel, .sentinel, .pinned], laidTests := true, laidLooks := .later }
def LinesBackUptoCardSaid : Prop := Claim7.holds Tryz.pinned (.plain (OpenSpec.upto linesBackSpec)) linesBackUptoCard

/-- THE SECOND FORM's CARD OF 'versolaw20.LinesJoins'. -/
def linesJoinsUptoCard : Claim7 := { stood := { row := linesJoinsUptoRow, standIns := [], harness := (true, "86f4c496e6335d2f0a25eed37ba6950d3f1303d0fb68c42f71f43e963f7b1f5e"), looks := true }, kinds := [], alts := [], laidByText := true, laidKinds := [.data, .data, .data, .data, .sentinel, .sentinel, .pinned], laidTests := true, laidLooks := .later }
def LinesJoinsUptoCardSaid : Prop := Claim7.holds Tryz.pinned (.plain (OpenSpec.upto linesJoinsSpec)) linesJoinsUptoCard

/-- THE SECOND FORM's CARD OF 'versolaw20.LinesParses'. -/
def linesParsesUptoCard : Claim7 := { stood := { row := linesParsesUptoRow, standIns := [], harness := (true, "86f4c496e6335d2f0a25eed37ba6950d3f1303d0fb68c42f71f43e963f7b1f5e"), looks := true }, kinds := [], alts := [], laidByText := true, laidKinds := [.data, .data, .data, .data, .sentinel, .sentinel, .pinned], laidTests := true, laidLooks := .later }
def LinesParsesUptoCardSaid : Prop := Claim7.holds Tryz.pinned (.plain (OpenSpec.upto linesParsesSpec)) linesParsesUptoCard

/-- THE SECOND FORM's CARD OF 'versolaw20.LinesText'. -/
def linesTextUptoCard : Claim7 := { stood := { row := linesTextUptoRow, standIns := [], harness := (true, "86f4c496e6335d2f0a25eed37ba6950d3f1303d0fb68c42f71f43e963f7b1f5e"), looks := true }, kinds := [], alts := [], laidByText := true, laidKinds := [.data, .data, .data, .data, .sentinel, .sentinel, .pinned], laidTests := true, laidLooks := .later }
def LinesTextUptoCardSaid : Prop := Claim7.holds Tryz.pinned (.plain (OpenSpec.upto linesTextSpec)) linesTextUptoCard

/-- THE SECOND FORM's CARD OF 'versolaw20.LinesTexts'. -/
def linesTextsUptoCard : Claim7 := { stood := { row := linesTextsUptoRow, standIns := [], harness := (true, "86f4c496e6335d2f0a25eed37ba6950d3f1303d0fb68c42f71f43e963f7b1f5e"), looks := true }, kinds := [], alts := [], laidByText := true, laidKinds := [.data, .data, .data, .data, .sentinel, .sentinel, .pinned], laidTests := true, laidLooks := .later }
def LinesTextsUptoCardSaid : Prop := Claim7.holds Tryz.pinned (.plain (OpenSpec.upto linesTextsSpec)) linesTextsUptoCard
end Rows
end Go.Proofs.YtfaodacmdlnabaaGreatDoor
