/-
  DERIVED. GIVEN WITH THE SEED: THE CARDS: each row of YtcplmaffccfbdaaGreatDoorRows.lean that lists a variable, with what it lists TIED to the program's text (the seventh form; the later family's looks); each row that meets fmt, with fmt's text TOLD by the authors' own Lean function (tested against real Go, not proved from fmt's source: count such statements apart). THE CARD IS WHAT COUNTS. Prove the row's statement (the work); the ties are given (YtcplmaffccfbdaaGreatDoorTie.lean); close each card by the builder's one call (the guide's Derived/Test/ToyasCard.lean, 'card_holds'). Laid BY PROGRAM, IN A SANDBOX (cutbox-door.mjs). By AI agents, Wed Nov 11 2026. No macro, syntax, notation, axiom, sorry.
-/
import Derived.Test.YtcplmaffccfbdaaGreatDoorRows
import GoSem.ClaimSeven
namespace Go.Proofs.YtcplmaffccfbdaaGreatDoor
namespace Rows

/-- THE TIED CARD OF 'versolaw15.MsgTexts'. -/
def msgTextsCard : Claim7 := { stood := { row := msgTextsRow, standIns := [], harness := (true, "db1e529da4263c55ce2554b203a7ca1d399ffff703ba11767779deb9bce43f28"), looks := true }, kinds := [], alts := [], laidByText := true, laidKinds := [.data, .data, .data, .data, .sentinel, .sentinel, .pinned], laidTests := true, laidLooks := .later }
def MsgTextsCardSaid : Prop := Claim7.holds Tryz.pinned (.plain (OpenSpec.ofChange msgTextsSpec)) msgTextsCard

/-- THE TIED CARD OF 'versolaw15.MsgReads'. -/
def msgReadsCard : Claim7 := { stood := { row := msgReadsRow, standIns := [], harness := (true, "db1e529da4263c55ce2554b203a7ca1d399ffff703ba11767779deb9bce43f28"), looks := true }, kinds := [], alts := [], laidByText := true, laidKinds := [.data, .data, .data, .data, .sentinel, .sentinel, .pinned], laidTests := true, laidLooks := .later }
def MsgReadsCardSaid : Prop := Claim7.holds Tryz.pinned (.plain (OpenSpec.ofChange msgReadsSpec)) msgReadsCard

/-- THE SECOND FORM's CARD OF 'versolaw15.MsgTexts'. -/
def msgTextsUptoCard : Claim7 := { stood := { row := msgTextsUptoRow, standIns := [], harness := (true, "db1e529da4263c55ce2554b203a7ca1d399ffff703ba11767779deb9bce43f28"), looks := true }, kinds := [], alts := [], laidByText := true, laidKinds := [.data, .data, .data, .data, .sentinel, .sentinel, .pinned], laidTests := true, laidLooks := .later }
def MsgTextsUptoCardSaid : Prop := Claim7.holds Tryz.pinned (.plain (OpenSpec.upto msgTextsSpec)) msgTextsUptoCard

/-- THE SECOND FORM's CARD OF 'versolaw15.MsgReads'. -/
def msgReadsUptoCard : Claim7 := { stood := { row := msgReadsUptoRow, standIns := [], harness := (true, "db1e529da4263c55ce2554b203a7ca1d399ffff703ba11767779deb9bce43f28"), looks := true }, kinds := [], alts := [], laidByText := true, laidKinds := [.data, .data, .data, .data, .sentinel, .sentinel, .pinned], laidTests := true, laidLooks := .later }
def MsgReadsUptoCardSaid : Prop := Claim7.holds Tryz.pinned (.plain (OpenSpec.upto msgReadsSpec)) msgReadsUptoCard
end Rows
end Go.Proofs.YtcplmaffccfbdaaGreatDoor
