/-
  DERIVED. GIVEN WITH THE SEED: THE CARDS: each row of YtkjplpmogfmhkaaGreatDoorRows.lean that lists a variable, with what it lists TIED to the program's text (the seventh form; the later family's looks); each row that meets fmt, with fmt's text TOLD by the authors' own Lean function (tested against real Go, not proved from fmt's source: count such statements apart). THE CARD IS WHAT COUNTS. Prove the row's statement (the work); the ties are given (YtkjplpmogfmhkaaGreatDoorTie.lean); close each card by the builder's one call (the guide's Derived/Test/ToyasCard.lean, 'card_holds'). Laid BY PROGRAM, IN A SANDBOX (cutbox-door.mjs). By AI agents, Wed Nov 11 2026. No macro, syntax, notation, axiom, sorry.
-/
import Derived.Test.YtkjplpmogfmhkaaGreatDoorRows
import GoSem.ClaimSeven
namespace Go.Proofs.YtkjplpmogfmhkaaGreatDoor
namespace Rows

/-- THE TIED CARD OF 'traveldoclaw26.TerminalchainStarts'. -/
def terminalchainStartsCard : Claim7 := { stood := { row := terminalchainStartsRow, standIns := [], harness := (true, "07a759e40ac142b4789776145dc868c2d160bcdc4b39349f72cd2f283967feb4"), looks := false }, kinds := [], alts := [], laidByText := true, laidKinds := [.data, .data], laidTests := true, laidLooks := .later }
def TerminalchainStartsCardSaid : Prop := Claim7.holds Tryz.pinned (.plain (OpenSpec.ofChange terminalchainStartsSpec)) terminalchainStartsCard

/-- THE TIED CARD OF 'traveldoclaw26.TerminalchainImports'. -/
def terminalchainImportsCard : Claim7 := { stood := { row := terminalchainImportsRow, standIns := [], harness := (true, "07a759e40ac142b4789776145dc868c2d160bcdc4b39349f72cd2f283967feb4"), looks := false }, kinds := [], alts := [], laidByText := true, laidKinds := [.data, .data], laidTests := true, laidLooks := .later }
def TerminalchainImportsCardSaid : Prop := Claim7.holds Tryz.pinned (.plain (OpenSpec.ofChange terminalchainImportsSpec)) terminalchainImportsCard

/-- THE TIED CARD OF 'traveldoclaw26.TerminalchainPaths'. -/
def terminalchainPathsCard : Claim7 := { stood := { row := terminalchainPathsRow, standIns := [], harness := (true, "07a759e40ac142b4789776145dc868c2d160bcdc4b39349f72cd2f283967feb4"), looks := false }, kinds := [], alts := [], laidByText := true, laidKinds := [.data, .data], laidTests := true, laidLooks := .later }
def TerminalchainPathsCardSaid : Prop := Claim7.holds Tryz.pinned (.plain (OpenSpec.ofChange terminalchainPathsSpec)) terminalchainPathsCard

/-- THE TIED CARD OF 'traveldoclaw26.TerminalchainRights'. -/
def terminalchainRightsCard : Claim7 := { stood := { row := terminalchainRightsRow, standIns := [], harness := (true, "07a759e40ac142b4789776145dc868c2d160bcdc4b39349f72cd2f283967feb4"), looks := false }, kinds := [], alts := [], laidByText := true, laidKinds := [.data, .data], laidTests := true, laidLooks := .later }
def TerminalchainRightsCardSaid : Prop := Claim7.holds Tryz.pinned (.plain (OpenSpec.ofChange terminalchainRightsSpec)) terminalchainRightsCard

/-- THE TIED CARD OF 'traveldoclaw30.NationalchainProves'. -/
def nationalchainProvesCard : Claim7 := { stood := { row := nationalchainProvesRow, standIns := [], harness := (true, "07a759e40ac142b4789776145dc868c2d160bcdc4b39349f72cd2f283967feb4"), looks := false }, kinds := [], alts := [], laidByText := true, laidKinds := [.data, .data], laidTests := true, laidLooks := .later }
def NationalchainProvesCardSaid : Prop := Claim7.holds Tryz.pinned (.plain (OpenSpec.ofChange nationalchainProvesSpec)) nationalchainProvesCard

/-- THE TIED CARD OF 'traveldoclaw30.NationalchainMade'. -/
def nationalchainMadeCard : Claim7 := { stood := { row := nationalchainMadeRow, standIns := [], harness := (true, "07a759e40ac142b4789776145dc868c2d160bcdc4b39349f72cd2f283967feb4"), looks := false }, kinds := [], alts := [], laidByText := true, laidKinds := [.data, .data], laidTests := true, laidLooks := .later }
def NationalchainMadeCardSaid : Prop := Claim7.holds Tryz.pinned (.plain (OpenSpec.ofChange nationalchainMadeSpec)) nationalchainMadeCard

/-- THE TIED CARD OF 'traveldoclaw30.NationalchainGrows'. -/
def nationalchainGrowsCard : Claim7 := { stood := { row := nationalchainGrowsRow, standIns := [], harness := (true, "07a759e40ac142b4789776145dc868c2d160bcdc4b39349f72cd2f283967feb4"), looks := false }, kinds := [], alts := [], laidByText := true, laidKinds := [.data, .data], laidTests := true, laidLooks := .later }
def NationalchainGrowsCardSaid : Prop := Claim7.holds Tryz.pinned (.plain (OpenSpec.ofChange nationalchainGrowsSpec)) nationalchainGrowsCard

/-- THE TIED CARD OF 'traveldoclaw31.MasterlistMade'. -/
def masterlistMadeCard : Claim7 := { stood := { row := masterlistMadeRow, standIns := [], harness := (true, "07a759e40ac142b4789776145dc868c2d160bcdc4b39349f72cd2f283967feb4"), looks := false }, kinds := [], alts := [], laidByText := true, laidKinds := [.data, .data], laidTests := true, laidLooks := .later }
def MasterlistMadeCardSaid : Prop := Claim7.holds Tryz.pinned (.plain (OpenSpec.ofChange masterlistMadeSpec)) masterlistMadeCard

/-- THE TIED CARD OF 'traveldoclaw31.MasterlistRaw'. -/
def masterlistRawCard : Claim7 := { stood := { row := masterlistRawRow, standIns := [], harness := (true, "07a759e40ac142b4789776145dc868c2d160bcdc4b39349f72cd2f283967feb4"), looks := false }, kinds := [], alts := [], laidByText := true, laidKinds := [.data, .data], laidTests := true, laidLooks := .later }
def MasterlistRawCardSaid : Prop := Claim7.holds Tryz.pinned (.plain (OpenSpec.ofChange masterlistRawSpec)) masterlistRawCard

/-- THE TIED CARD OF 'traveldoclaw31.MasterlistNewer'. -/
def masterlistNewerCard : Claim7 := { stood := { row := masterlistNewerRow, standIns := [], harness := (true, "07a759e40ac142b4789776145dc868c2d160bcdc4b39349f72cd2f283967feb4"), looks := false }, kinds := [], alts := [], laidByText := true, laidKinds := [.data, .data], laidTests := true, laidLooks := .later }
def MasterlistNewerCardSaid : Prop := Claim7.holds Tryz.pinned (.plain (OpenSpec.ofChange masterlistNewerSpec)) masterlistNewerCard

/-- THE TIED CARD OF 'traveldoclaw32.RevocationMade'. -/
def revocationMadeCard : Claim7 := { stood := { row := revocationMadeRow, standIns := [], harness := (true, "07a759e40ac142b4789776145dc868c2d160bcdc4b39349f72cd2f283967feb4"), looks := false }, kinds := [], alts := [], laidByText := true, laidKinds := [.data, .data], laidTests := true, laidLooks := .later }
def RevocationMadeCardSaid : Prop := Claim7.holds Tryz.pinned (.plain (OpenSpec.ofChange revocationMadeSpec)) revocationMadeCard

/-- THE TIED CARD OF 'traveldoclaw32.RevocationNewest'. -/
def revocationNewestCard : Claim7 := { stood := { row := revocationNewestRow, standIns := [], harness := (true, "07a759e40ac142b4789776145dc868c2d160bcdc4b39349f72cd2f283967feb4"), looks := false }, kinds := [], alts := [], laidByText := true, laidKinds := [.data, .data], laidTests := true, laidLooks := .later }
def RevocationNewestCardSaid : Prop := Claim7.holds Tryz.pinned (.plain (OpenSpec.ofChange revocationNewestSpec)) revocationNewestCard

/-- THE TIED CARD OF 'traveldoclaw32.RevocationRaw'. -/
def revocationRawCard : Claim7 := { stood := { row := revocationRawRow, standIns := [], harness := (true, "07a759e40ac142b4789776145dc868c2d160bcdc4b39349f72cd2f283967feb4"), looks := false }, kinds := [], alts := [], laidByText := true, laidKinds := [.data, .data], laidTests := true, laidLooks := .later }
def RevocationRawCardSaid : Prop := Claim7.holds Tryz.pinned (.plain (OpenSpec.ofChange revocationRawSpec)) revocationRawCard

/-- THE TIED CARD OF 'traveldoclaw33.DeviationMade'. -/
def deviationMadeCard : Claim7 := { stood := { row := deviationMadeRow, standIns := [], harness := (true, "07a759e40ac142b4789776145dc868c2d160bcdc4b39349f72cd2f283967feb4"), looks := false }, kinds := [], alts := [], laidByText := true, laidKinds := [.data, .data], laidTests := true, laidLooks := .later }
def DeviationMadeCardSaid : Prop := Claim7.holds Tryz.pinned (.plain (OpenSpec.ofChange deviationMadeSpec)) deviationMadeCard

/-- THE TIED CARD OF 'traveldoclaw33.DeviationRaw'. -/
def deviationRawCard : Claim7 := { stood := { row := deviationRawRow, standIns := [], harness := (true, "07a759e40ac142b4789776145dc868c2d160bcdc4b39349f72cd2f283967feb4"), looks := false }, kinds := [], alts := [], laidByText := true, laidKinds := [.data, .data], laidTests := true, laidLooks := .later }
def DeviationRawCardSaid : Prop := Claim7.holds Tryz.pinned (.plain (OpenSpec.ofChange deviationRawSpec)) deviationRawCard

/-- THE TIED CARD OF 'traveldoclaw33.DeviationOwn'. -/
def deviationOwnCard : Claim7 := { stood := { row := deviationOwnRow, standIns := [], harness := (true, "07a759e40ac142b4789776145dc868c2d160bcdc4b39349f72cd2f283967feb4"), looks := false }, kinds := [], alts := [], laidByText := true, laidKinds := [.data, .data], laidTests := true, laidLooks := .later }
def DeviationOwnCardSaid : Prop := Claim7.holds Tryz.pinned (.plain (OpenSpec.ofChange deviationOwnSpec)) deviationOwnCard

/-- THE SECOND FORM's CARD OF 'traveldoclaw26.TerminalchainStarts'. -/
def terminalchainStartsUptoCard : Claim7 := { stood := { row := terminalchainStartsUptoRow, standIns := [], harness := (true, "07a759e40ac142b4789776145dc868c2d160bcdc4b39349f72cd2f283967feb4"), looks := false }, kinds := [], alts := [], laidByText := true, laidKinds := [.data, .data], laidTests := true, laidLooks := .later }
def TerminalchainStartsUptoCardSaid : Prop := Claim7.holds Tryz.pinned (.plain (OpenSpec.upto terminalchainStartsSpec)) terminalchainStartsUptoCard

/-- THE SECOND FORM's CARD OF 'traveldoclaw26.TerminalchainImports'. -/
def terminalchainImportsUptoCard : Claim7 := { stood := { row := terminalchainImportsUptoRow, standIns := [], harness := (true, "07a759e40ac142b4789776145dc868c2d160bcdc4b39349f72cd2f283967feb4"), looks := false }, kinds := [], alts := [], laidByText := true, laidKinds := [.data, .data], laidTests := true, laidLooks := .later }
def TerminalchainImportsUptoCardSaid : Prop := Claim7.holds Tryz.pinned (.plain (OpenSpec.upto terminalchainImportsSpec)) terminalchainImportsUptoCard

/-- THE SECOND FORM's CARD OF 'traveldoclaw26.TerminalchainPaths'. -/
def terminalchainPathsUptoCard : Claim7 := { stood := { row := terminalchainPathsUptoRow, standIns := [], harness := (true, "07a759e40ac142b4789776145dc868c2d160bcdc4b39349f72cd2f283967feb4"), looks := false }, kinds := [], alts := [], laidByText := true, laidKinds := [.data, .data], laidTests := true, laidLooks := .later }
def TerminalchainPathsUptoCardSaid : Prop := Claim7.holds Tryz.pinned (.plain (OpenSpec.upto terminalchainPathsSpec)) terminalchainPathsUptoCard

/-- THE SECOND FORM's CARD OF 'traveldoclaw26.TerminalchainRights'. -/
def terminalchainRightsUptoCard : Claim7 := { stood := { row := terminalchainRightsUptoRow, standIns := [], harness := (true, "07a759e40ac142b4789776145dc868c2d160bcdc4b39349f72cd2f283967feb4"), looks := false }, kinds := [], alts := [], laidByText := true, laidKinds := [.data, .data], laidTests := true, laidLooks := .later }
def TerminalchainRightsUptoCardSaid : Prop := Claim7.holds Tryz.pinned (.plain (OpenSpec.upto terminalchainRightsSpec)) terminalchainRightsUptoCard

/-- THE SECOND FORM's CARD OF 'traveldoclaw30.NationalchainProves'. -/
def nationalchainProvesUptoCard : Claim7 := { stood := { row := nationalchainProvesUptoRow, standIns := [], harness := (true, "07a759e40ac142b4789776145dc868c2d160bcdc4b39349f72cd2f283967feb4"), looks := false }, kinds := [], alts := [], laidByText := true, laidKinds := [.data, .data], laidTests := true, laidLooks := .later }
def NationalchainProvesUptoCardSaid : Prop := Claim7.holds Tryz.pinned (.plain (OpenSpec.upto nationalchainProvesSpec)) nationalchainProvesUptoCard

/-- THE SECOND FORM's CARD OF 'traveldoclaw30.NationalchainMade'. -/
def nationalchainMadeUptoCard : Claim7 := { stood := { row := nationalchainMadeUptoRow, standIns := [], harness := (true, "07a759e40ac142b4789776145dc868c2d160bcdc4b39349f72cd2f283967feb4"), looks := false }, kinds := [], alts := [], laidByText := true, laidKinds := [.data, .data], laidTests := true, laidLooks := .later }
def NationalchainMadeUptoCardSaid : Prop := Claim7.holds Tryz.pinned (.plain (OpenSpec.upto nationalchainMadeSpec)) nationalchainMadeUptoCard

/-- THE SECOND FORM's CARD OF 'traveldoclaw30.NationalchainGrows'. -/
def nationalchainGrowsUptoCard : Claim7 := { stood := { row := nationalchainGrowsUptoRow, standIns := [], harness := (true, "07a759e40ac142b4789776145dc868c2d160bcdc4b39349f72cd2f283967feb4"), looks := false }, kinds := [], alts := [], laidByText := true, laidKinds := [.data, .data], laidTests := true, laidLooks := .later }
def NationalchainGrowsUptoCardSaid : Prop := Claim7.holds Tryz.pinned (.plain (OpenSpec.upto nationalchainGrowsSpec)) nationalchainGrowsUptoCard

/-- THE SECOND FORM's CARD OF 'traveldoclaw31.MasterlistMade'. -/
def masterlistMadeUptoCard : Claim7 := { stood := { row := masterlistMadeUptoRow, standIns := [], harness := (true, "07a759e40ac142b4789776145dc868c2d160bcdc4b39349f72cd2f283967feb4"), looks := false }, kinds := [], alts := [], laidByText := true, laidKinds := [.data, .data], laidTests := true, laidLooks := .later }
def MasterlistMadeUptoCardSaid : Prop := Claim7.holds Tryz.pinned (.plain (OpenSpec.upto masterlistMadeSpec)) masterlistMadeUptoCard

/-- THE SECOND FORM's CARD OF 'traveldoclaw31.MasterlistRaw'. -/
def masterlistRawUptoCard : Claim7 := { stood := { row := masterlistRawUptoRow, standIns := [], harness := (true, "07a759e40ac142b4789776145dc868c2d160bcdc4b39349f72cd2f283967feb4"), looks := false }, kinds := [], alts := [], laidByText := true, laidKinds := [.data, .data], laidTests := true, laidLooks := .later }
def MasterlistRawUptoCardSaid : Prop := Claim7.holds Tryz.pinned (.plain (OpenSpec.upto masterlistRawSpec)) masterlistRawUptoCard

/-- THE SECOND FORM's CARD OF 'traveldoclaw31.MasterlistNewer'. -/
def masterlistNewerUptoCard : Claim7 := { stood := { row := masterlistNewerUptoRow, standIns := [], harness := (true, "07a759e40ac142b4789776145dc868c2d160bcdc4b39349f72cd2f283967feb4"), looks := false }, kinds := [], alts := [], laidByText := true, laidKinds := [.data, .data], laidTests := true, laidLooks := .later }
def MasterlistNewerUptoCardSaid : Prop := Claim7.holds Tryz.pinned (.plain (OpenSpec.upto masterlistNewerSpec)) masterlistNewerUptoCard

/-- THE SECOND FORM's CARD OF 'traveldoclaw32.RevocationMade'. -/
def revocationMadeUptoCard : Claim7 := { stood := { row := revocationMadeUptoRow, standIns := [], harness := (true, "07a759e40ac142b4789776145dc868c2d160bcdc4b39349f72cd2f283967feb4"), looks := false }, kinds := [], alts := [], laidByText := true, laidKinds := [.data, .data], laidTests := true, laidLooks := .later }
def RevocationMadeUptoCardSaid : Prop := Claim7.holds Tryz.pinned (.plain (OpenSpec.upto revocationMadeSpec)) revocationMadeUptoCard

/-- THE SECOND FORM's CARD OF 'traveldoclaw32.RevocationNewest'. -/
def revocationNewestUptoCard : Claim7 := { stood := { row := revocationNewestUptoRow, standIns := [], harness := (true, "07a759e40ac142b4789776145dc868c2d160bcdc4b39349f72cd2f283967feb4"), looks := false }, kinds := [], alts := [], laidByText := true, laidKinds := [.data, .data], laidTests := true, laidLooks := .later }
def RevocationNewestUptoCardSaid : Prop := Claim7.holds Tryz.pinned (.plain (OpenSpec.upto revocationNewestSpec)) revocationNewestUptoCard

/-- THE SECOND FORM's CARD OF 'traveldoclaw32.RevocationRaw'. -/
def revocationRawUptoCard : Claim7 := { stood := { row := revocationRawUptoRow, standIns := [], harness := (true, "07a759e40ac142b4789776145dc868c2d160bcdc4b39349f72cd2f283967feb4"), looks := false }, kinds := [], alts := [], laidByText := true, laidKinds := [.data, .data], laidTests := true, laidLooks := .later }
def RevocationRawUptoCardSaid : Prop := Claim7.holds Tryz.pinned (.plain (OpenSpec.upto revocationRawSpec)) revocationRawUptoCard

/-- THE SECOND FORM's CARD OF 'traveldoclaw33.DeviationMade'. -/
def deviationMadeUptoCard : Claim7 := { stood := { row := deviationMadeUptoRow, standIns := [], harness := (true, "07a759e40ac142b4789776145dc868c2d160bcdc4b39349f72cd2f283967feb4"), looks := false }, kinds := [], alts := [], laidByText := true, laidKinds := [.data, .data], laidTests := true, laidLooks := .later }
def DeviationMadeUptoCardSaid : Prop := Claim7.holds Tryz.pinned (.plain (OpenSpec.upto deviationMadeSpec)) deviationMadeUptoCard

/-- THE SECOND FORM's CARD OF 'traveldoclaw33.DeviationRaw'. -/
def deviationRawUptoCard : Claim7 := { stood := { row := deviationRawUptoRow, standIns := [], harness := (true, "07a759e40ac142b4789776145dc868c2d160bcdc4b39349f72cd2f283967feb4"), looks := false }, kinds := [], alts := [], laidByText := true, laidKinds := [.data, .data], laidTests := true, laidLooks := .later }
def DeviationRawUptoCardSaid : Prop := Claim7.holds Tryz.pinned (.plain (OpenSpec.upto deviationRawSpec)) deviationRawUptoCard

/-- THE SECOND FORM's CARD OF 'traveldoclaw33.DeviationOwn'. -/
def deviationOwnUptoCard : Claim7 := { stood := { row := deviationOwnUptoRow, standIns := [], harness := (true, "07a759e40ac142b4789776145dc868c2d160bcdc4b39349f72cd2f283967feb4"), looks := false }, kinds := [], alts := [], laidByText := true, laidKinds := [.data, .data], laidTests := true, laidLooks := .later }
def DeviationOwnUptoCardSaid : Prop := Claim7.holds Tryz.pinned (.plain (OpenSpec.upto deviationOwnSpec)) deviationOwnUptoCard
end Rows
end Go.Proofs.YtkjplpmogfmhkaaGreatDoor
