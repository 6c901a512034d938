/-
  DERIVED. GIVEN WITH THE SEED: THE CARDS: each row of YtmmoenkmicimcaaGreatDoorRows.lean that lists a variable, with what it lists TIED to the program's text (the seventh form; the later family's looks); each row that meets fmt, with fmt's text TOLD by the authors' own Lean function (tested against real Go, not proved from fmt's source: count such statements apart). THE CARD IS WHAT COUNTS. Prove the row's statement (the work); the ties are given (YtmmoenkmicimcaaGreatDoorTie.lean); close each card by the builder's one call (the guide's Derived/Test/ToyasCard.lean, 'card_holds'). Laid BY PROGRAM, IN A SANDBOX (cutbox-door.mjs). By AI agents, Wed Nov 11 2026. No macro, syntax, notation, axiom, sorry.
-/
import Derived.Test.YtmmoenkmicimcaaGreatDoorRows
import GoSem.ClaimSeven
namespace Go.Proofs.YtmmoenkmicimcaaGreatDoor
namespace Rows

/-- THE TIED CARD OF 'traveldoclaw33.DeviationMade'. -/
def deviationMadeCard : Claim7 := { stood := { row := deviationMadeRow, standIns := [], harness := (true, "88698f57705168c1e465f5fca98280aee4807dce97e940107392acabd503bd23"), looks := false }, kinds := [], alts := [], laidByText := true, laidKinds := [.data, .data], laidTests := true, laidLooks := .later }
def DeviationMadeCardSaid : Prop := Claim7.holds Tryz.pinned (.plain (OpenSpec.ofChange deviationMadeSpec)) deviationMadeCard

/-- THE TIED CARD OF 'traveldoclaw33.DeviationRaw'. -/
def deviationRawCard : Claim7 := { stood := { row := deviationRawRow, standIns := [], harness := (true, "88698f57705168c1e465f5fca98280aee4807dce97e940107392acabd503bd23"), looks := false }, kinds := [], alts := [], laidByText := true, laidKinds := [.data, .data], laidTests := true, laidLooks := .later }
def DeviationRawCardSaid : Prop := Claim7.holds Tryz.pinned (.plain (OpenSpec.ofChange deviationRawSpec)) deviationRawCard

/-- THE TIED CARD OF 'traveldoclaw33.DeviationOwn'. -/
def deviationOwnCard : Claim7 := { stood := { row := deviationOwnRow, standIns := [], harness := (true, "88698f57705168c1e465f5fca98280aee4807dce97e940107392acabd503bd23"), looks := false }, kinds := [], alts := [], laidByText := true, laidKinds := [.data, .data], laidTests := true, laidLooks := .later }
def DeviationOwnCardSaid : Prop := Claim7.holds Tryz.pinned (.plain (OpenSpec.ofChange deviationOwnSpec)) deviationOwnCard

/-- THE SECOND FORM's CARD OF 'traveldoclaw33.DeviationMade'. -/
def deviationMadeUptoCard : Claim7 := { stood := { row := deviationMadeUptoRow, standIns := [], harness := (true, "88698f57705168c1e465f5fca98280aee4807dce97e940107392acabd503bd23"), looks := false }, kinds := [], alts := [], laidByText := true, laidKinds := [.data, .data], laidTests := true, laidLooks := .later }
def DeviationMadeUptoCardSaid : Prop := Claim7.holds Tryz.pinned (.plain (OpenSpec.upto deviationMadeSpec)) deviationMadeUptoCard

/-- THE SECOND FORM's CARD OF 'traveldoclaw33.DeviationRaw'. -/
def deviationRawUptoCard : Claim7 := { stood := { row := deviationRawUptoRow, standIns := [], harness := (true, "88698f57705168c1e465f5fca98280aee4807dce97e940107392acabd503bd23"), looks := false }, kinds := [], alts := [], laidByText := true, laidKinds := [.data, .data], laidTests := true, laidLooks := .later }
def DeviationRawUptoCardSaid : Prop := Claim7.holds Tryz.pinned (.plain (OpenSpec.upto deviationRawSpec)) deviationRawUptoCard

/-- THE SECOND FORM's CARD OF 'traveldoclaw33.DeviationOwn'. -/
def deviationOwnUptoCard : Claim7 := { stood := { row := deviationOwnUptoRow, standIns := [], harness := (true, "88698f57705168c1e465f5fca98280aee4807dce97e940107392acabd503bd23"), looks := false }, kinds := [], alts := [], laidByText := true, laidKinds := [.data, .data], laidTests := true, laidLooks := .later }
def DeviationOwnUptoCardSaid : Prop := Claim7.holds Tryz.pinned (.plain (OpenSpec.upto deviationOwnSpec)) deviationOwnUptoCard
end Rows
end Go.Proofs.YtmmoenkmicimcaaGreatDoor
