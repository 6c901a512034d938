/-
  DERIVED. GIVEN WITH THE SEED: THE CARDS: each row of YtkjplpmogfmhkaaDoorRows.lean that lists a variable, with what it lists TIED to the program's text (the seventh form; the later family's looks); each row that meets fmt, with fmt's text TOLD by the authors' own Lean function (tested against real Go, not proved from fmt's source: count such statements apart). THE CARD IS WHAT COUNTS. Prove the row's statement (the work); the ties are given (YtkjplpmogfmhkaaDoorTie.lean); close each card by the builder's one call (the guide's Derived/Test/ToyasCard.lean, 'card_holds'). Laid BY PROGRAM, IN A SANDBOX (cutbox-door.mjs). By AI agents, Wed Nov 11 2026. No macro, syntax, notation, axiom, sorry.
-/
import Derived.Test.YtkjplpmogfmhkaaDoorRows
import GoSem.ClaimSeven
namespace Go.Proofs.YtkjplpmogfmhkaaDoor
namespace Rows

/-- THE TIED CARD OF 'traveldoclaw26.TerminalchainLinks'. -/
def terminalchainLinksCard : Claim7 := { stood := { row := terminalchainLinksRow, standIns := [], harness := (true, "2c1930d5b3a7954d21d916e55c371778d97012c413c735f822fe8764fe522802"), looks := false }, kinds := [], alts := [], laidByText := true, laidKinds := [.data, .data], laidTests := true, laidLooks := .later }
def TerminalchainLinksCardSaid : Prop := Claim7.holds Tryd.pinned (.plain (OpenSpec.ofChange terminalchainLinksSpec)) terminalchainLinksCard

/-- THE SECOND FORM's CARD OF 'traveldoclaw26.TerminalchainLinks'. -/
def terminalchainLinksUptoCard : Claim7 := { stood := { row := terminalchainLinksUptoRow, standIns := [], harness := (true, "2c1930d5b3a7954d21d916e55c371778d97012c413c735f822fe8764fe522802"), looks := false }, kinds := [], alts := [], laidByText := true, laidKinds := [.data, .data], laidTests := true, laidLooks := .later }
def TerminalchainLinksUptoCardSaid : Prop := Claim7.holds Tryd.pinned (.plain (OpenSpec.upto terminalchainLinksSpec)) terminalchainLinksUptoCard
end Rows
end Go.Proofs.YtkjplpmogfmhkaaDoor
