/-
  DERIVED. GIVEN WITH THE SEED: THE CARDS: each row of YtcbagpippmbmfaaGreatDoorRows.lean that lists a variable, with what it lists TIED to the program's text (the seventh form; the later family's looks); each row that meets fmt, with fmt's text TOLD by the authors' own Lean function (tested against real Go, not proved from fmt's source: count such statements apart). THE CARD IS WHAT COUNTS. Prove the row's statement (the work); the ties are given (YtcbagpippmbmfaaGreatDoorTie.lean); close each card by the builder's one call (the guide's Derived/Test/ToyasCard.lean, 'card_holds'). Laid BY PROGRAM, IN A SANDBOX (cutbox-door.mjs). By AI agents, Wed Nov 11 2026. No macro, syntax, notation, axiom, sorry.
-/
import Derived.Test.YtcbagpippmbmfaaGreatDoorRows
import GoSem.ClaimSeven
namespace Go.Proofs.YtcbagpippmbmfaaGreatDoor
namespace Rows

/-- THE TIED CARD OF 'versolaw18.NodeSilent'. -/
def nodeSilentCard : Claim7 := { stood := { row := nodeSilentRow, standIns := [], harness := (true, "77ba9616efae6d62644df24c7c943bd29ae45fbca00f9d3e83ead03338d709b2"), looks := true }, kinds := [], alts := [], laidByText := true, laidKinds := [.data, .data, .data, .data, .sentinel, .sentinel, .pinned], laidTests := true, laidLooks := .later }
def NodeSilentCardSaid : Prop := Claim7.holds Tryz.pinned (.plain (OpenSpec.ofChange nodeSilentSpec)) nodeSilentCard

/-- THE TIED CARD OF 'versolaw18.NodeTells'. -/
def nodeTellsCard : Claim7 := { stood := { row := nodeTellsRow, standIns := [], harness := (true, "77ba9616efae6d62644df24c7c943bd29ae45fbca00f9d3e83ead03338d709b2"), looks := true }, kinds := [], alts := [], laidByText := true, laidKinds := [.data, .data, .data, .data, .sentinel, .sentinel, .pinned], laidTests := true, laidLooks := .later }
def NodeTellsCardSaid : Prop := Claim7.holds Tryz.pinned (.plain (OpenSpec.ofChange nodeTellsSpec)) nodeTellsCard

/-- THE TIED CARD OF 'versolaw18.NodeMeets'. -/
def nodeMeetsCard : Claim7 := { stood := { row := nodeMeetsRow, standIns := [], harness := (true, "77ba9616efae6d62644df24c7c943bd29ae45fbca00f9d3e83ead03338d709b2"), looks := true }, kinds := [], alts := [], laidByText := true, laidKinds := [.data, .data, .data, .data, .sentinel, .sentinel, .pinned], laidTests := true, laidLooks := .later }
def NodeMeetsCardSaid : Prop := Claim7.holds Tryz.pinned (.plain (OpenSpec.ofChange nodeMeetsSpec)) nodeMeetsCard

/-- THE TIED CARD OF 'versolaw18.NodeAlone'. -/
def nodeAloneCard : Claim7 := { stood := { row := nodeAloneRow, standIns := [], harness := (true, "77ba9616efae6d62644df24c7c943bd29ae45fbca00f9d3e83ead03338d709b2"), looks := true }, kinds := [], alts := [], laidByText := true, laidKinds := [.data, .data, .data, .data, .sentinel, .sentinel, .pinned], laidTests := true, laidLooks := .later }
def NodeAloneCardSaid : Prop := Claim7.holds Tryz.pinned (.plain (OpenSpec.ofChange nodeAloneSpec)) nodeAloneCard

/-- THE TIED CARD OF 'versolaw18.NodeGrows'. -/
def nodeGrowsCard : Claim7 := { stood := { row := nodeGrowsRow, standIns := [], harness := (true, "77ba9616efae6d62644df24c7c943bd29ae45fbca00f9d3e83ead03338d709b2"), looks := true }, kinds := [], alts := [], laidByText := true, laidKinds := [.data, .data, .data, .data, .sentinel, .sentinel, .pinned], laidTests := true, laidLooks := .later }
def NodeGrowsCardSaid : Prop := Claim7.holds Tryz.pinned (.plain (OpenSpec.ofChange nodeGrowsSpec)) nodeGrowsCard

/-- THE TIED CARD OF 'versolaw18.NodePlays'. -/
def nodePlaysCard : Claim7 := { stood := { row := nodePlaysRow, standIns := [], harness := (true, "77ba9616efae6d62644df24c7c943bd29ae45fbca00f9d3e83ead03338d709b2"), looks := true }, kinds := [], alts := [], laidByText := true, laidKinds := [.data, .data, .data, .data, .sentinel, .sentinel, .pinned], laidTests := true, laidLooks := .later }
def NodePlaysCardSaid : Prop := Claim7.holds Tryz.pinned (.plain (OpenSpec.ofChange nodePlaysSpec)) nodePlaysCard

/-- THE SECOND FORM's CARD OF 'versolaw18.NodeSilent'. -/
def nodeSilentUptoCard : Claim7 := { stood := { row := nodeSilentUptoRow, standIns := [], harness := (true, "77ba9616efae6d62644df24c7c943bd29ae45fbca00f9d3e83ead03338d709b2"), looks := true }, kinds := [], alts := [], laidByText := true, laidKinds := [.data, .data, .data, .data, .sentinel, .sentinel, .pinned], laidTests := true, laidLooks := .later }
def NodeSilentUptoCardSaid : Prop := Claim7.holds Tryz.pinned (.plain (OpenSpec.upto nodeSilentSpec)) nodeSilentUptoCard

/-- THE SECOND FORM's CARD OF 'versolaw18.NodeTells'. -/
def nodeTellsUptoCard : Claim7 := { stood := { row := nodeTellsUptoRow, standIns := [], harness := (true, "77ba9616efae6d62644df24c7c943bd29ae45fbca00f9d3e83ead03338d709b2"), looks := true }, kinds := [], alts := [], laidByText := true, laidKinds := [.data, .data, .data, .data, .sentinel, .sentinel, .pinned], laidTests := true, laidLooks := .later }
def NodeTellsUptoCardSaid : Prop := Claim7.holds Tryz.pinned (.plain (OpenSpec.upto nodeTellsSpec)) nodeTellsUptoCard

/-- THE SECOND FORM's CARD OF 'versolaw18.NodeMeets'. -/
def nodeMeetsUptoCard : Claim7 := { stood := { row := nodeMeetsUptoRow, standIns := [], harness := (true, "77ba9616efae6d62644df24c7c943bd29ae45fbca00f9d3e83ead03338d709b2"), looks := true }, kinds := [], alts := [], laidByText := true, laidKinds := [.data, .data, .data, .data, .sentinel, .sentinel, .pinned], laidTests := true, laidLooks := .later }
def NodeMeetsUptoCardSaid : Prop := Claim7.holds Tryz.pinned (.plain (OpenSpec.upto nodeMeetsSpec)) nodeMeetsUptoCard

/-- THE SECOND FORM's CARD OF 'versolaw18.NodeAlone'. -/
def nodeAloneUptoCard : Claim7 := { stood := { row := nodeAloneUptoRow, standIns := [], harness := (true, "77ba9616efae6d62644df24c7c943bd29ae45fbca00f9d3e83ead03338d709b2"), looks := true }, kinds := [], alts := [], laidByText := true, laidKinds := [.data, .data, .data, .data, .sentinel, .sentinel, .pinned], laidTests := true, laidLooks := .later }
def NodeAloneUptoCardSaid : Prop := Claim7.holds Tryz.pinned (.plain (OpenSpec.upto nodeAloneSpec)) nodeAloneUptoCard

/-- THE SECOND FORM's CARD OF 'versolaw18.NodeGrows'. -/
def nodeGrowsUptoCard : Claim7 := { stood := { row := nodeGrowsUptoRow, standIns := [], harness := (true, "77ba9616efae6d62644df24c7c943bd29ae45fbca00f9d3e83ead03338d709b2"), looks := true }, kinds := [], alts := [], laidByText := true, laidKinds := [.data, .data, .data, .data, .sentinel, .sentinel, .pinned], laidTests := true, laidLooks := .later }
def NodeGrowsUptoCardSaid : Prop := Claim7.holds Tryz.pinned (.plain (OpenSpec.upto nodeGrowsSpec)) nodeGrowsUptoCard

/-- THE SECOND FORM's CARD OF 'versolaw18.NodePlays'. -/
def nodePlaysUptoCard : Claim7 := { stood := { row := nodePlaysUptoRow, standIns := [], harness := (true, "77ba9616efae6d62644df24c7c943bd29ae45fbca00f9d3e83ead03338d709b2"), looks := true }, kinds := [], alts := [], laidByText := true, laidKinds := [.data, .data, .data, .data, .sentinel, .sentinel, .pinned], laidTests := true, laidLooks := .later }
def NodePlaysUptoCardSaid : Prop := Claim7.holds Tryz.pinned (.plain (OpenSpec.upto nodePlaysSpec)) nodePlaysUptoCard
end Rows
end Go.Proofs.YtcbagpippmbmfaaGreatDoor
