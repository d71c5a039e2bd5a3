/-
  DERIVED. GIVEN WITH THE SEED: THE CARDS: each row of YtpclcofdogcbjaaDoorRows.lean that lists a variable, with what it lists TIED to the program's text (the seventh form; the later family's looks); each row that meets fmt, with fmt's text TOLD by the authors' own Lean function (tested against real Go, not proved from fmt's source: count such statements apart). THE CARD IS WHAT COUNTS. Prove the row's statement (the work); the ties are given (YtpclcofdogcbjaaDoorTie.lean); close each card by the builder's one call (the guide's Derived/Test/ToyasCard.lean, 'card_holds'). Laid BY PROGRAM, IN A SANDBOX (cutbox-door.mjs). By AI agents, Wed Nov 11 2026. No macro, syntax, notation, axiom, sorry.
-/
import Derived.Test.YtpclcofdogcbjaaDoorRows
import GoSem.ClaimSeven
namespace Go.Proofs.YtpclcofdogcbjaaDoor
namespace Rows

/-- THE TIED CARD OF 'versolaw08.PolicyTexts'. -/
def policyTextsCard : Claim7 := { stood := { row := policyTextsRow, standIns := [], harness := (true, "886029ff303ee20334cdd84fb5ba2998b98754ca836ea4daf1efa7f1275296e0"), looks := true }, kinds := [], alts := [], laidByText := true, laidKinds := [.data, .data, .data], laidTests := true, laidLooks := .later }
def PolicyTextsCardSaid : Prop := Claim7.holds Tryd.pinned (.plain (OpenSpec.ofChange policyTextsSpec)) policyTextsCard

/-- THE TIED CARD OF 'versolaw08.PolicyNever'. -/
def policyNeverCard : Claim7 := { stood := { row := policyNeverRow, standIns := [], harness := (true, "886029ff303ee20334cdd84fb5ba2998b98754ca836ea4daf1efa7f1275296e0"), looks := true }, kinds := [], alts := [], laidByText := true, laidKinds := [.data, .data, .data], laidTests := true, laidLooks := .later }
def PolicyNeverCardSaid : Prop := Claim7.holds Tryd.pinned (.plain (OpenSpec.ofChange policyNeverSpec)) policyNeverCard

/-- THE TIED CARD OF 'versolaw08.PolicyLets'. -/
def policyLetsCard : Claim7 := { stood := { row := policyLetsRow, standIns := [], harness := (true, "886029ff303ee20334cdd84fb5ba2998b98754ca836ea4daf1efa7f1275296e0"), looks := true }, kinds := [], alts := [], laidByText := true, laidKinds := [.data, .data, .data], laidTests := true, laidLooks := .later }
def PolicyLetsCardSaid : Prop := Claim7.holds Tryd.pinned (.plain (OpenSpec.ofChange policyLetsSpec)) policyLetsCard

/-- THE TIED CARD OF 'versolaw08.PolicyOrder'. -/
def policyOrderCard : Claim7 := { stood := { row := policyOrderRow, standIns := [], harness := (true, "886029ff303ee20334cdd84fb5ba2998b98754ca836ea4daf1efa7f1275296e0"), looks := true }, kinds := [], alts := [], laidByText := true, laidKinds := [.data, .data, .data], laidTests := true, laidLooks := .later }
def PolicyOrderCardSaid : Prop := Claim7.holds Tryd.pinned (.plain (OpenSpec.ofChange policyOrderSpec)) policyOrderCard

/-- THE TIED CARD OF 'versolaw08.PolicyFewer'. -/
def policyFewerCard : Claim7 := { stood := { row := policyFewerRow, standIns := [], harness := (true, "886029ff303ee20334cdd84fb5ba2998b98754ca836ea4daf1efa7f1275296e0"), looks := true }, kinds := [], alts := [], laidByText := true, laidKinds := [.data, .data, .data], laidTests := true, laidLooks := .later }
def PolicyFewerCardSaid : Prop := Claim7.holds Tryd.pinned (.plain (OpenSpec.ofChange policyFewerSpec)) policyFewerCard

/-- THE TIED CARD OF 'versolaw08.PolicyReads'. -/
def policyReadsCard : Claim7 := { stood := { row := policyReadsRow, standIns := [], harness := (true, "886029ff303ee20334cdd84fb5ba2998b98754ca836ea4daf1efa7f1275296e0"), looks := true }, kinds := [], alts := [], laidByText := true, laidKinds := [.data, .data, .data, .data, .sentinel, .sentinel, .pinned], laidTests := true, laidLooks := .later }
def PolicyReadsCardSaid : Prop := Claim7.holds Tryd.pinned (.plain (OpenSpec.ofChange policyReadsSpec)) policyReadsCard

/-- THE TIED CARD OF 'versolaw08.PolicyBack'. -/
def policyBackCard : Claim7 := { stood := { row := policyBackRow, standIns := [], harness := (true, "886029ff303ee20334cdd84fb5ba2998b98754ca836ea4daf1efa7f1275296e0"), looks := true }, kinds := [], alts := [], laidByText := true, laidKinds := [.data, .data, .data, .data, .sentinel, .sentinel, .pinned], laidTests := true, laidLooks := .later }
def PolicyBackCardSaid : Prop := Claim7.holds Tryd.pinned (.plain (OpenSpec.ofChange policyBackSpec)) policyBackCard

/-- THE SECOND FORM's CARD OF 'versolaw08.PolicyTexts'. -/
def policyTextsUptoCard : Claim7 := { stood := { row := policyTextsUptoRow, standIns := [], harness := (true, "886029ff303ee20334cdd84fb5ba2998b98754ca836ea4daf1efa7f1275296e0"), looks := true }, kinds := [], alts := [], laidByText := true, laidKinds := [.data, .data, .data], laidTests := true, laidLooks := .later }
def PolicyTextsUptoCardSaid : Prop := Claim7.holds Tryd.pinned (.plain (OpenSpec.upto policyTextsSpec)) policyTextsUptoCard

/-- THE SECOND FORM's CARD OF 'versolaw08.PolicyNever'. -/
def policyNeverUptoCard : Claim7 := { stood := { row := policyNeverUptoRow, standIns := [], harness := (true, "886029ff303ee20334cdd84fb5ba2998b98754ca836ea4daf1efa7f1275296e0"), looks := true }, kinds := [], alts := [], laidByText := true, laidKinds := [.data, .data, .data], laidTests := true, laidLooks := .later }
def PolicyNeverUptoCardSaid : Prop := Claim7.holds Tryd.pinned (.plain (OpenSpec.upto policyNeverSpec)) policyNeverUptoCard

/-- THE SECOND FORM's CARD OF 'versolaw08.PolicyLets'. -/
def policyLetsUptoCard : Claim7 := { stood := { row := policyLetsUptoRow, standIns := [], harness := (true, "886029ff303ee20334cdd84fb5ba2998b98754ca836ea4daf1efa7f1275296e0"), looks := true }, kinds := [], alts := [], laidByText := true, laidKinds := [.data, .data, .data], laidTests := true, laidLooks := .later }
def PolicyLetsUptoCardSaid : Prop := Claim7.holds Tryd.pinned (.plain (OpenSpec.upto policyLetsSpec)) policyLetsUptoCard

/-- THE SECOND FORM's CARD OF 'versolaw08.PolicyOrder'. -/
def policyOrderUptoCard : Claim7 := { stood := { row := policyOrderUptoRow, standIns := [], harness := (true, "886029ff303ee20334cdd84fb5ba2998b98754ca836ea4daf1efa7f1275296e0"), looks := true }, kinds := [], alts := [], laidByText := true, laidKinds := [.data, .data, .data], laidTests := true, laidLooks := .later }
def PolicyOrderUptoCardSaid : Prop := Claim7.holds Tryd.pinned (.plain (OpenSpec.upto policyOrderSpec)) policyOrderUptoCard

/-- THE SECOND FORM's CARD OF 'versolaw08.PolicyFewer'. -/
def policyFewerUptoCard : Claim7 := { stood := { row := policyFewerUptoRow, standIns := [], harness := (true, "886029ff303ee20334cdd84fb5ba2998b98754ca836ea4daf1efa7f1275296e0"), looks := true }, kinds := [], alts := [], laidByText := true, laidKinds := [.data, .data, .data], laidTests := true, laidLooks := .later }
def PolicyFewerUptoCardSaid : Prop := Claim7.holds Tryd.pinned (.plain (OpenSpec.upto policyFewerSpec)) policyFewerUptoCard

/-- THE SECOND FORM's CARD OF 'versolaw08.PolicyReads'. -/
def policyReadsUptoCard : Claim7 := { stood := { row := policyReadsUptoRow, standIns := [], harness := (true, "886029ff303ee20334cdd84fb5ba2998b98754ca836ea4daf1efa7f1275296e0"), looks := true }, kinds := [], alts := [], laidByText := true, laidKinds := [.data, .data, .data, .data, .sentinel, .sentinel, .pinned], laidTests := true, laidLooks := .later }
def PolicyReadsUptoCardSaid : Prop := Claim7.holds Tryd.pinned (.plain (OpenSpec.upto policyReadsSpec)) policyReadsUptoCard

/-- THE SECOND FORM's CARD OF 'versolaw08.PolicyBack'. -/
def policyBackUptoCard : Claim7 := { stood := { row := policyBackUptoRow, standIns := [], harness := (true, "886029ff303ee20334cdd84fb5ba2998b98754ca836ea4daf1efa7f1275296e0"), looks := true }, kinds := [], alts := [], laidByText := true, laidKinds := [.data, .data, .data, .data, .sentinel, .sentinel, .pinned], laidTests := true, laidLooks := .later }
def PolicyBackUptoCardSaid : Prop := Claim7.holds Tryd.pinned (.plain (OpenSpec.upto policyBackSpec)) policyBackUptoCard
end Rows
end Go.Proofs.YtpclcofdogcbjaaDoor
