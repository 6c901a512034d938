/-
  DERIVED. GIVEN WITH THE SEED: THE CARDS: each row of YteilglpdmfiinaaDoorRows.lean that lists a variable, with what it lists TIED to the program's text (the seventh form; the later family's looks); each row that meets fmt, with fmt's text TOLD by the authors' own Lean function (tested against real Go, not proved from fmt's source: count such statements apart). THE CARD IS WHAT COUNTS. Prove the row's statement (the work); the ties are given (YteilglpdmfiinaaDoorTie.lean); close each card by the builder's one call (the guide's Derived/Test/ToyasCard.lean, 'card_holds'). Laid BY PROGRAM, IN A SANDBOX (cutbox-door.mjs). By AI agents, Wed Nov 11 2026. No macro, syntax, notation, axiom, sorry.
-/
import Derived.Test.YteilglpdmfiinaaDoorRows
import GoSem.ClaimSeven
namespace Go.Proofs.YteilglpdmfiinaaDoor
namespace Rows

/-- THE TIED CARD OF 'traveldoclaw24.TerminalcertChecks'. -/
def terminalcertChecksCard : Claim7 := { stood := { row := terminalcertChecksRow, standIns := [], harness := (true, "b76d9a943c67da6732b84d6519f7dc840fc4c4b261c4f32d2055973e8ed4a759"), looks := false }, kinds := [], alts := [], laidByText := true, laidKinds := [.data], laidTests := true, laidLooks := .later }
def TerminalcertChecksCardSaid : Prop := Claim7.holds Tryd.pinned (.plain (OpenSpec.ofChange terminalcertChecksSpec)) terminalcertChecksCard

/-- THE TIED CARD OF 'traveldoclaw24.TerminalcertBytes'. -/
def terminalcertBytesCard : Claim7 := { stood := { row := terminalcertBytesRow, standIns := [], harness := (true, "b76d9a943c67da6732b84d6519f7dc840fc4c4b261c4f32d2055973e8ed4a759"), looks := false }, kinds := [], alts := [], laidByText := true, laidKinds := [.data], laidTests := true, laidLooks := .later }
def TerminalcertBytesCardSaid : Prop := Claim7.holds Tryd.pinned (.plain (OpenSpec.ofChange terminalcertBytesSpec)) terminalcertBytesCard

/-- THE TIED CARD OF 'traveldoclaw26.TerminalchainLinks'. -/
def terminalchainLinksCard : Claim7 := { stood := { row := terminalchainLinksRow, standIns := [], harness := (true, "b76d9a943c67da6732b84d6519f7dc840fc4c4b261c4f32d2055973e8ed4a759"), looks := false }, kinds := [], alts := [], laidByText := true, laidKinds := [.data, .data], laidTests := true, laidLooks := .later }
def TerminalchainLinksCardSaid : Prop := Claim7.holds Tryd.pinned (.plain (OpenSpec.ofChange terminalchainLinksSpec)) terminalchainLinksCard

/-- THE TIED CARD OF 'traveldoclaw29.NationalcertChecks'. -/
def nationalcertChecksCard : Claim7 := { stood := { row := nationalcertChecksRow, standIns := [], harness := (true, "b76d9a943c67da6732b84d6519f7dc840fc4c4b261c4f32d2055973e8ed4a759"), looks := false }, kinds := [], alts := [], laidByText := true, laidKinds := [.data], laidTests := true, laidLooks := .later }
def NationalcertChecksCardSaid : Prop := Claim7.holds Tryd.pinned (.plain (OpenSpec.ofChange nationalcertChecksSpec)) nationalcertChecksCard

/-- THE TIED CARD OF 'traveldoclaw29.NationalcertBytes'. -/
def nationalcertBytesCard : Claim7 := { stood := { row := nationalcertBytesRow, standIns := [], harness := (true, "b76d9a943c67da6732b84d6519f7dc840fc4c4b261c4f32d2055973e8ed4a759"), looks := false }, kinds := [], alts := [], laidByText := true, laidKinds := [.data], laidTests := true, laidLooks := .later }
def NationalcertBytesCardSaid : Prop := Claim7.holds Tryd.pinned (.plain (OpenSpec.ofChange nationalcertBytesSpec)) nationalcertBytesCard

/-- THE SECOND FORM's CARD OF 'traveldoclaw24.TerminalcertChecks'. -/
def terminalcertChecksUptoCard : Claim7 := { stood := { row := terminalcertChecksUptoRow, standIns := [], harness := (true, "b76d9a943c67da6732b84d6519f7dc840fc4c4b261c4f32d2055973e8ed4a759"), looks := false }, kinds := [], alts := [], laidByText := true, laidKinds := [.data], laidTests := true, laidLooks := .later }
def TerminalcertChecksUptoCardSaid : Prop := Claim7.holds Tryd.pinned (.plain (OpenSpec.upto terminalcertChecksSpec)) terminalcertChecksUptoCard

/-- THE SECOND FORM's CARD OF 'traveldoclaw24.TerminalcertBytes'. -/
def terminalcertBytesUptoCard : Claim7 := { stood := { row := terminalcertBytesUptoRow, standIns := [], harness := (true, "b76d9a943c67da6732b84d6519f7dc840fc4c4b261c4f32d2055973e8ed4a759"), looks := false }, kinds := [], alts := [], laidByText := true, laidKinds := [.data], laidTests := true, laidLooks := .later }
def TerminalcertBytesUptoCardSaid : Prop := Claim7.holds Tryd.pinned (.plain (OpenSpec.upto terminalcertBytesSpec)) terminalcertBytesUptoCard

/-- THE SECOND FORM's CARD OF 'traveldoclaw26.TerminalchainLinks'. -/
def terminalchainLinksUptoCard : Claim7 := { stood := { row := terminalchainLinksUptoRow, standIns := [], harness := (true, "b76d9a943c67da6732b84d6519f7dc840fc4c4b261c4f32d2055973e8ed4a759"), looks := false }, kinds := [], alts := [], laidByText := true, laidKinds := [.data, .data], laidTests := true, laidLooks := .later }
def TerminalchainLinksUptoCardSaid : Prop := Claim7.holds Tryd.pinned (.plain (OpenSpec.upto terminalchainLinksSpec)) terminalchainLinksUptoCard

/-- THE SECOND FORM's CARD OF 'traveldoclaw29.NationalcertChecks'. -/
def nationalcertChecksUptoCard : Claim7 := { stood := { row := nationalcertChecksUptoRow, standIns := [], harness := (true, "b76d9a943c67da6732b84d6519f7dc840fc4c4b261c4f32d2055973e8ed4a759"), looks := false }, kinds := [], alts := [], laidByText := true, laidKinds := [.data], laidTests := true, laidLooks := .later }
def NationalcertChecksUptoCardSaid : Prop := Claim7.holds Tryd.pinned (.plain (OpenSpec.upto nationalcertChecksSpec)) nationalcertChecksUptoCard

/-- THE SECOND FORM's CARD OF 'traveldoclaw29.NationalcertBytes'. -/
def nationalcertBytesUptoCard : Claim7 := { stood := { row := nationalcertBytesUptoRow, standIns := [], harness := (true, "b76d9a943c67da6732b84d6519f7dc840fc4c4b261c4f32d2055973e8ed4a759"), looks := false }, kinds := [], alts := [], laidByText := true, laidKinds := [.data], laidTests := true, laidLooks := .later }
def NationalcertBytesUptoCardSaid : Prop := Claim7.holds Tryd.pinned (.plain (OpenSpec.upto nationalcertBytesSpec)) nationalcertBytesUptoCard
end Rows
end Go.Proofs.YteilglpdmfiinaaDoor
