/-
  DERIVED. GIVEN WITH THE SEED: THE CARDS: each row of YteilglpdmfiinaaGreatDoorRows.lean that lists a variable, with what it lists TIED to the program's text (the seventh form; the later family's looks); each row that meets fmt, with fmt's text TOLD by the authors' own Lean function (tested against real Go, not proved from fmt's source: count such statements apart). THE CARD IS WHAT COUNTS. Prove the row's statement (the work); the ties are given (YteilglpdmfiinaaGreatDoorTie.lean); close each card by the builder's one call (the guide's Derived/Test/ToyasCard.lean, 'card_holds'). Laid BY PROGRAM, IN A SANDBOX (cutbox-door.mjs). By AI agents, Wed Nov 11 2026. No macro, syntax, notation, axiom, sorry.
-/
import Derived.Test.YteilglpdmfiinaaGreatDoorRows
import GoSem.ClaimSeven
namespace Go.Proofs.YteilglpdmfiinaaGreatDoor
namespace Rows

/-- THE TIED CARD OF 'traveldoclaw24.TerminalcertDecodes'. -/
def terminalcertDecodesCard : Claim7 := { stood := { row := terminalcertDecodesRow, standIns := [], harness := (true, "679a98f096f9a496f11e4ffcd481768a7ace9278549415b8de45654a087b577a"), looks := false }, kinds := [], alts := [], laidByText := true, laidKinds := [.data], laidTests := true, laidLooks := .later }
def TerminalcertDecodesCardSaid : Prop := Claim7.holds Tryz.pinned (.plain (OpenSpec.ofChange terminalcertDecodesSpec)) terminalcertDecodesCard

/-- THE TIED CARD OF 'traveldoclaw24.TerminalcertIssues'. -/
def terminalcertIssuesCard : Claim7 := { stood := { row := terminalcertIssuesRow, standIns := [], harness := (true, "679a98f096f9a496f11e4ffcd481768a7ace9278549415b8de45654a087b577a"), looks := false }, kinds := [], alts := [], laidByText := true, laidKinds := [.data, .data], laidTests := true, laidLooks := .later }
def TerminalcertIssuesCardSaid : Prop := Claim7.holds Tryz.pinned (.plain (OpenSpec.ofChange terminalcertIssuesSpec)) terminalcertIssuesCard

/-- THE TIED CARD OF 'traveldoclaw24.TerminalcertBack'. -/
def terminalcertBackCard : Claim7 := { stood := { row := terminalcertBackRow, standIns := [], harness := (true, "679a98f096f9a496f11e4ffcd481768a7ace9278549415b8de45654a087b577a"), looks := false }, kinds := [], alts := [], laidByText := true, laidKinds := [.data, .data], laidTests := true, laidLooks := .later }
def TerminalcertBackCardSaid : Prop := Claim7.holds Tryz.pinned (.plain (OpenSpec.ofChange terminalcertBackSpec)) terminalcertBackCard

/-- THE TIED CARD OF 'traveldoclaw26.TerminalchainStarts'. -/
def terminalchainStartsCard : Claim7 := { stood := { row := terminalchainStartsRow, standIns := [], harness := (true, "679a98f096f9a496f11e4ffcd481768a7ace9278549415b8de45654a087b577a"), looks := false }, kinds := [], alts := [], laidByText := true, laidKinds := [.data, .data], laidTests := true, laidLooks := .later }
def TerminalchainStartsCardSaid : Prop := Claim7.holds Tryz.pinned (.plain (OpenSpec.ofChange terminalchainStartsSpec)) terminalchainStartsCard

/-- THE TIED CARD OF 'traveldoclaw26.TerminalchainImports'. -/
def terminalchainImportsCard : Claim7 := { stood := { row := terminalchainImportsRow, standIns := [], harness := (true, "679a98f096f9a496f11e4ffcd481768a7ace9278549415b8de45654a087b577a"), looks := false }, kinds := [], alts := [], laidByText := true, laidKinds := [.data, .data], laidTests := true, laidLooks := .later }
def TerminalchainImportsCardSaid : Prop := Claim7.holds Tryz.pinned (.plain (OpenSpec.ofChange terminalchainImportsSpec)) terminalchainImportsCard

/-- THE TIED CARD OF 'traveldoclaw26.TerminalchainPaths'. -/
def terminalchainPathsCard : Claim7 := { stood := { row := terminalchainPathsRow, standIns := [], harness := (true, "679a98f096f9a496f11e4ffcd481768a7ace9278549415b8de45654a087b577a"), looks := false }, kinds := [], alts := [], laidByText := true, laidKinds := [.data, .data], laidTests := true, laidLooks := .later }
def TerminalchainPathsCardSaid : Prop := Claim7.holds Tryz.pinned (.plain (OpenSpec.ofChange terminalchainPathsSpec)) terminalchainPathsCard

/-- THE TIED CARD OF 'traveldoclaw26.TerminalchainRights'. -/
def terminalchainRightsCard : Claim7 := { stood := { row := terminalchainRightsRow, standIns := [], harness := (true, "679a98f096f9a496f11e4ffcd481768a7ace9278549415b8de45654a087b577a"), looks := false }, kinds := [], alts := [], laidByText := true, laidKinds := [.data, .data], laidTests := true, laidLooks := .later }
def TerminalchainRightsCardSaid : Prop := Claim7.holds Tryz.pinned (.plain (OpenSpec.ofChange terminalchainRightsSpec)) terminalchainRightsCard

/-- THE TIED CARD OF 'traveldoclaw29.NationalcertDecodes'. -/
def nationalcertDecodesCard : Claim7 := { stood := { row := nationalcertDecodesRow, standIns := [], harness := (true, "679a98f096f9a496f11e4ffcd481768a7ace9278549415b8de45654a087b577a"), looks := false }, kinds := [], alts := [], laidByText := true, laidKinds := [.data], laidTests := true, laidLooks := .later }
def NationalcertDecodesCardSaid : Prop := Claim7.holds Tryz.pinned (.plain (OpenSpec.ofChange nationalcertDecodesSpec)) nationalcertDecodesCard

/-- THE TIED CARD OF 'traveldoclaw29.NationalcertIssues'. -/
def nationalcertIssuesCard : Claim7 := { stood := { row := nationalcertIssuesRow, standIns := [], harness := (true, "679a98f096f9a496f11e4ffcd481768a7ace9278549415b8de45654a087b577a"), looks := false }, kinds := [], alts := [], laidByText := true, laidKinds := [.data, .data], laidTests := true, laidLooks := .later }
def NationalcertIssuesCardSaid : Prop := Claim7.holds Tryz.pinned (.plain (OpenSpec.ofChange nationalcertIssuesSpec)) nationalcertIssuesCard

/-- THE TIED CARD OF 'traveldoclaw29.NationalcertBack'. -/
def nationalcertBackCard : Claim7 := { stood := { row := nationalcertBackRow, standIns := [], harness := (true, "679a98f096f9a496f11e4ffcd481768a7ace9278549415b8de45654a087b577a"), looks := false }, kinds := [], alts := [], laidByText := true, laidKinds := [.data, .data], laidTests := true, laidLooks := .later }
def NationalcertBackCardSaid : Prop := Claim7.holds Tryz.pinned (.plain (OpenSpec.ofChange nationalcertBackSpec)) nationalcertBackCard

/-- THE TIED CARD OF 'traveldoclaw30.NationalchainProves'. -/
def nationalchainProvesCard : Claim7 := { stood := { row := nationalchainProvesRow, standIns := [], harness := (true, "679a98f096f9a496f11e4ffcd481768a7ace9278549415b8de45654a087b577a"), looks := false }, kinds := [], alts := [], laidByText := true, laidKinds := [.data, .data], laidTests := true, laidLooks := .later }
def NationalchainProvesCardSaid : Prop := Claim7.holds Tryz.pinned (.plain (OpenSpec.ofChange nationalchainProvesSpec)) nationalchainProvesCard

/-- THE TIED CARD OF 'traveldoclaw30.NationalchainMade'. -/
def nationalchainMadeCard : Claim7 := { stood := { row := nationalchainMadeRow, standIns := [], harness := (true, "679a98f096f9a496f11e4ffcd481768a7ace9278549415b8de45654a087b577a"), looks := false }, kinds := [], alts := [], laidByText := true, laidKinds := [.data, .data], laidTests := true, laidLooks := .later }
def NationalchainMadeCardSaid : Prop := Claim7.holds Tryz.pinned (.plain (OpenSpec.ofChange nationalchainMadeSpec)) nationalchainMadeCard

/-- THE TIED CARD OF 'traveldoclaw30.NationalchainGrows'. -/
def nationalchainGrowsCard : Claim7 := { stood := { row := nationalchainGrowsRow, standIns := [], harness := (true, "679a98f096f9a496f11e4ffcd481768a7ace9278549415b8de45654a087b577a"), looks := false }, kinds := [], alts := [], laidByText := true, laidKinds := [.data, .data], laidTests := true, laidLooks := .later }
def NationalchainGrowsCardSaid : Prop := Claim7.holds Tryz.pinned (.plain (OpenSpec.ofChange nationalchainGrowsSpec)) nationalchainGrowsCard

/-- THE SECOND FORM's CARD OF 'traveldoclaw24.TerminalcertDecodes'. -/
def terminalcertDecodesUptoCard : Claim7 := { stood := { row := terminalcertDecodesUptoRow, standIns := [], harness := (true, "679a98f096f9a496f11e4ffcd481768a7ace9278549415b8de45654a087b577a"), looks := false }, kinds := [], alts := [], laidByText := true, laidKinds := [.data], laidTests := true, laidLooks := .later }
def TerminalcertDecodesUptoCardSaid : Prop := Claim7.holds Tryz.pinned (.plain (OpenSpec.upto terminalcertDecodesSpec)) terminalcertDecodesUptoCard

/-- THE SECOND FORM's CARD OF 'traveldoclaw24.TerminalcertIssues'. -/
def terminalcertIssuesUptoCard : Claim7 := { stood := { row := terminalcertIssuesUptoRow, standIns := [], harness := (true, "679a98f096f9a496f11e4ffcd481768a7ace9278549415b8de45654a087b577a"), looks := false }, kinds := [], alts := [], laidByText := true, laidKinds := [.data, .data], laidTests := true, laidLooks := .later }
def TerminalcertIssuesUptoCardSaid : Prop := Claim7.holds Tryz.pinned (.plain (OpenSpec.upto terminalcertIssuesSpec)) terminalcertIssuesUptoCard

/-- THE SECOND FORM's CARD OF 'traveldoclaw24.TerminalcertBack'. -/
def terminalcertBackUptoCard : Claim7 := { stood := { row := terminalcertBackUptoRow, standIns := [], harness := (true, "679a98f096f9a496f11e4ffcd481768a7ace9278549415b8de45654a087b577a"), looks := false }, kinds := [], alts := [], laidByText := true, laidKinds := [.data, .data], laidTests := true, laidLooks := .later }
def TerminalcertBackUptoCardSaid : Prop := Claim7.holds Tryz.pinned (.plain (OpenSpec.upto terminalcertBackSpec)) terminalcertBackUptoCard

/-- THE SECOND FORM's CARD OF 'traveldoclaw26.TerminalchainStarts'. -/
def terminalchainStartsUptoCard : Claim7 := { stood := { row := terminalchainStartsUptoRow, standIns := [], harness := (true, "679a98f096f9a496f11e4ffcd481768a7ace9278549415b8de45654a087b577a"), looks := false }, kinds := [], alts := [], laidByText := true, laidKinds := [.data, .data], laidTests := true, laidLooks := .later }
def TerminalchainStartsUptoCardSaid : Prop := Claim7.holds Tryz.pinned (.plain (OpenSpec.upto terminalchainStartsSpec)) terminalchainStartsUptoCard

/-- THE SECOND FORM's CARD OF 'traveldoclaw26.TerminalchainImports'. -/
def terminalchainImportsUptoCard : Claim7 := { stood := { row := terminalchainImportsUptoRow, standIns := [], harness := (true, "679a98f096f9a496f11e4ffcd481768a7ace9278549415b8de45654a087b577a"), looks := false }, kinds := [], alts := [], laidByText := true, laidKinds := [.data, .data], laidTests := true, laidLooks := .later }
def TerminalchainImportsUptoCardSaid : Prop := Claim7.holds Tryz.pinned (.plain (OpenSpec.upto terminalchainImportsSpec)) terminalchainImportsUptoCard

/-- THE SECOND FORM's CARD OF 'traveldoclaw26.TerminalchainPaths'. -/
def terminalchainPathsUptoCard : Claim7 := { stood := { row := terminalchainPathsUptoRow, standIns := [], harness := (true, "679a98f096f9a496f11e4ffcd481768a7ace9278549415b8de45654a087b577a"), looks := false }, kinds := [], alts := [], laidByText := true, laidKinds := [.data, .data], laidTests := true, laidLooks := .later }
def TerminalchainPathsUptoCardSaid : Prop := Claim7.holds Tryz.pinned (.plain (OpenSpec.upto terminalchainPathsSpec)) terminalchainPathsUptoCard

/-- THE SECOND FORM's CARD OF 'traveldoclaw26.TerminalchainRights'. -/
def terminalchainRightsUptoCard : Claim7 := { stood := { row := terminalchainRightsUptoRow, standIns := [], harness := (true, "679a98f096f9a496f11e4ffcd481768a7ace9278549415b8de45654a087b577a"), looks := false }, kinds := [], alts := [], laidByText := true, laidKinds := [.data, .data], laidTests := true, laidLooks := .later }
def TerminalchainRightsUptoCardSaid : Prop := Claim7.holds Tryz.pinned (.plain (OpenSpec.upto terminalchainRightsSpec)) terminalchainRightsUptoCard

/-- THE SECOND FORM's CARD OF 'traveldoclaw29.NationalcertDecodes'. -/
def nationalcertDecodesUptoCard : Claim7 := { stood := { row := nationalcertDecodesUptoRow, standIns := [], harness := (true, "679a98f096f9a496f11e4ffcd481768a7ace9278549415b8de45654a087b577a"), looks := false }, kinds := [], alts := [], laidByText := true, laidKinds := [.data], laidTests := true, laidLooks := .later }
def NationalcertDecodesUptoCardSaid : Prop := Claim7.holds Tryz.pinned (.plain (OpenSpec.upto nationalcertDecodesSpec)) nationalcertDecodesUptoCard

/-- THE SECOND FORM's CARD OF 'traveldoclaw29.NationalcertIssues'. -/
def nationalcertIssuesUptoCard : Claim7 := { stood := { row := nationalcertIssuesUptoRow, standIns := [], harness := (true, "679a98f096f9a496f11e4ffcd481768a7ace9278549415b8de45654a087b577a"), looks := false }, kinds := [], alts := [], laidByText := true, laidKinds := [.data, .data], laidTests := true, laidLooks := .later }
def NationalcertIssuesUptoCardSaid : Prop := Claim7.holds Tryz.pinned (.plain (OpenSpec.upto nationalcertIssuesSpec)) nationalcertIssuesUptoCard

/-- THE SECOND FORM's CARD OF 'traveldoclaw29.NationalcertBack'. -/
def nationalcertBackUptoCard : Claim7 := { stood := { row := nationalcertBackUptoRow, standIns := [], harness := (true, "679a98f096f9a496f11e4ffcd481768a7ace9278549415b8de45654a087b577a"), looks := false }, kinds := [], alts := [], laidByText := true, laidKinds := [.data, .data], laidTests := true, laidLooks := .later }
def NationalcertBackUptoCardSaid : Prop := Claim7.holds Tryz.pinned (.plain (OpenSpec.upto nationalcertBackSpec)) nationalcertBackUptoCard

/-- THE SECOND FORM's CARD OF 'traveldoclaw30.NationalchainProves'. -/
def nationalchainProvesUptoCard : Claim7 := { stood := { row := nationalchainProvesUptoRow, standIns := [], harness := (true, "679a98f096f9a496f11e4ffcd481768a7ace9278549415b8de45654a087b577a"), looks := false }, kinds := [], alts := [], laidByText := true, laidKinds := [.data, .data], laidTests := true, laidLooks := .later }
def NationalchainProvesUptoCardSaid : Prop := Claim7.holds Tryz.pinned (.plain (OpenSpec.upto nationalchainProvesSpec)) nationalchainProvesUptoCard

/-- THE SECOND FORM's CARD OF 'traveldoclaw30.NationalchainMade'. -/
def nationalchainMadeUptoCard : Claim7 := { stood := { row := nationalchainMadeUptoRow, standIns := [], harness := (true, "679a98f096f9a496f11e4ffcd481768a7ace9278549415b8de45654a087b577a"), looks := false }, kinds := [], alts := [], laidByText := true, laidKinds := [.data, .data], laidTests := true, laidLooks := .later }
def NationalchainMadeUptoCardSaid : Prop := Claim7.holds Tryz.pinned (.plain (OpenSpec.upto nationalchainMadeSpec)) nationalchainMadeUptoCard

/-- THE SECOND FORM's CARD OF 'traveldoclaw30.NationalchainGrows'. -/
def nationalchainGrowsUptoCard : Claim7 := { stood := { row := nationalchainGrowsUptoRow, standIns := [], harness := (true, "679a98f096f9a496f11e4ffcd481768a7ace9278549415b8de45654a087b577a"), looks := false }, kinds := [], alts := [], laidByText := true, laidKinds := [.data, .data], laidTests := true, laidLooks := .later }
def NationalchainGrowsUptoCardSaid : Prop := Claim7.holds Tryz.pinned (.plain (OpenSpec.upto nationalchainGrowsSpec)) nationalchainGrowsUptoCard
end Rows
end Go.Proofs.YteilglpdmfiinaaGreatDoor
