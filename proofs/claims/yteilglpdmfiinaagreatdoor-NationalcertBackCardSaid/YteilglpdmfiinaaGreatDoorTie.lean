/-
  DERIVED. GIVEN WITH THE SEED: THE PROGRAM's TIES (one call each: nine closed facts by the kernel) AND EACH ROW's TIE, after the 31st guide's Derived/Test/Toyas{Tie, Card}.lean. No idea stands in it: it is a product of the set-up. Laid BY PROGRAM, IN A SANDBOX (cutbox-door.mjs). By AI agents, Wed Nov 11 2026. No macro, syntax, notation, axiom, sorry.
-/
import Derived.Test.YteilglpdmfiinaaGreatDoorRows
import Derived.LaidByTextLater
import Derived.SevenTiedAt
import Derived.LaidSub
import Derived.LaidOnce
namespace Go.Proofs.YteilglpdmfiinaaGreatDoor
open Go
set_option maxRecDepth 100000
theorem seatTie1 : Tryz.prog.laidByTextLater [("traveldoc/traveldocref04.constants", Rows.laid_traveldoc_traveldocref04_constants), ("traveldoc/digest.constants", Rows.laid_traveldoc_digest_constants)] [.data, .data] true :=
  Program.laidByTextLater_by_one 19 8 65 (by kernel_rfl) (by kernel_rfl) (by kernel_rfl) (by kernel_rfl) (by kernel_rfl) (by kernel_rfl) (fun _ _ => by kernel_rfl)
theorem noOwnUnsafe : Tryz.pinned.checked.prog.headLifts.contains "ownunsafe" = false := by kernel_rfl
theorem tie : Tryz.prog.laidByTextLater [("traveldoc/digest.constants", Rows.laid_traveldoc_digest_constants)] [.data] true :=
  Program.laidByTextLater.sub seatTie1 ["traveldoc/digest.constants"] (by kernel_rfl) (by kernel_rfl)
theorem terminalcertDecodes_row_tie : Rows.terminalcertDecodesRow.laidByTextAt .later Tryz.pinned [.data] true :=
  OpenClaim.laidByTextAt_later rfl rfl tie noOwnUnsafe
theorem nationalcertDecodes_row_tie : Rows.nationalcertDecodesRow.laidByTextAt .later Tryz.pinned [.data] true :=
  OpenClaim.laidByTextAt_later rfl rfl tie noOwnUnsafe
theorem tie2 : Tryz.prog.laidByTextLater [("traveldoc/traveldocref04.constants", Rows.laid_traveldoc_traveldocref04_constants), ("traveldoc/digest.constants", Rows.laid_traveldoc_digest_constants)] [.data, .data] true :=
  Program.laidByTextLater.sub seatTie1 ["traveldoc/traveldocref04.constants", "traveldoc/digest.constants"] (by kernel_rfl) (by kernel_rfl)
theorem terminalcertIssues_row_tie : Rows.terminalcertIssuesRow.laidByTextAt .later Tryz.pinned [.data, .data] true :=
  OpenClaim.laidByTextAt_later rfl rfl tie2 noOwnUnsafe
theorem terminalcertBack_row_tie : Rows.terminalcertBackRow.laidByTextAt .later Tryz.pinned [.data, .data] true :=
  OpenClaim.laidByTextAt_later rfl rfl tie2 noOwnUnsafe
theorem terminalchainStarts_row_tie : Rows.terminalchainStartsRow.laidByTextAt .later Tryz.pinned [.data, .data] true :=
  OpenClaim.laidByTextAt_later rfl rfl tie2 noOwnUnsafe
theorem terminalchainImports_row_tie : Rows.terminalchainImportsRow.laidByTextAt .later Tryz.pinned [.data, .data] true :=
  OpenClaim.laidByTextAt_later rfl rfl tie2 noOwnUnsafe
theorem terminalchainPaths_row_tie : Rows.terminalchainPathsRow.laidByTextAt .later Tryz.pinned [.data, .data] true :=
  OpenClaim.laidByTextAt_later rfl rfl tie2 noOwnUnsafe
theorem terminalchainRights_row_tie : Rows.terminalchainRightsRow.laidByTextAt .later Tryz.pinned [.data, .data] true :=
  OpenClaim.laidByTextAt_later rfl rfl tie2 noOwnUnsafe
theorem nationalcertIssues_row_tie : Rows.nationalcertIssuesRow.laidByTextAt .later Tryz.pinned [.data, .data] true :=
  OpenClaim.laidByTextAt_later rfl rfl tie2 noOwnUnsafe
theorem nationalcertBack_row_tie : Rows.nationalcertBackRow.laidByTextAt .later Tryz.pinned [.data, .data] true :=
  OpenClaim.laidByTextAt_later rfl rfl tie2 noOwnUnsafe
theorem nationalchainProves_row_tie : Rows.nationalchainProvesRow.laidByTextAt .later Tryz.pinned [.data, .data] true :=
  OpenClaim.laidByTextAt_later rfl rfl tie2 noOwnUnsafe
theorem nationalchainMade_row_tie : Rows.nationalchainMadeRow.laidByTextAt .later Tryz.pinned [.data, .data] true :=
  OpenClaim.laidByTextAt_later rfl rfl tie2 noOwnUnsafe
theorem nationalchainGrows_row_tie : Rows.nationalchainGrowsRow.laidByTextAt .later Tryz.pinned [.data, .data] true :=
  OpenClaim.laidByTextAt_later rfl rfl tie2 noOwnUnsafe
theorem terminalcertDecodesUpto_row_tie : Rows.terminalcertDecodesUptoRow.laidByTextAt .later Tryz.pinned [.data] true :=
  OpenClaim.laidByTextAt_later rfl rfl tie noOwnUnsafe
theorem terminalcertIssuesUpto_row_tie : Rows.terminalcertIssuesUptoRow.laidByTextAt .later Tryz.pinned [.data, .data] true :=
  OpenClaim.laidByTextAt_later rfl rfl tie2 noOwnUnsafe
theorem terminalcertBackUpto_row_tie : Rows.terminalcertBackUptoRow.laidByTextAt .later Tryz.pinned [.data, .data] true :=
  OpenClaim.laidByTextAt_later rfl rfl tie2 noOwnUnsafe
theorem terminalchainStartsUpto_row_tie : Rows.terminalchainStartsUptoRow.laidByTextAt .later Tryz.pinned [.data, .data] true :=
  OpenClaim.laidByTextAt_later rfl rfl tie2 noOwnUnsafe
theorem terminalchainImportsUpto_row_tie : Rows.terminalchainImportsUptoRow.laidByTextAt .later Tryz.pinned [.data, .data] true :=
  OpenClaim.laidByTextAt_later rfl rfl tie2 noOwnUnsafe
theorem terminalchainPathsUpto_row_tie : Rows.terminalchainPathsUptoRow.laidByTextAt .later Tryz.pinned [.data, .data] true :=
  OpenClaim.laidByTextAt_later rfl rfl tie2 noOwnUnsafe
theorem terminalchainRightsUpto_row_tie : Rows.terminalchainRightsUptoRow.laidByTextAt .later Tryz.pinned [.data, .data] true :=
  OpenClaim.laidByTextAt_later rfl rfl tie2 noOwnUnsafe
theorem nationalcertDecodesUpto_row_tie : Rows.nationalcertDecodesUptoRow.laidByTextAt .later Tryz.pinned [.data] true :=
  OpenClaim.laidByTextAt_later rfl rfl tie noOwnUnsafe
theorem nationalcertIssuesUpto_row_tie : Rows.nationalcertIssuesUptoRow.laidByTextAt .later Tryz.pinned [.data, .data] true :=
  OpenClaim.laidByTextAt_later rfl rfl tie2 noOwnUnsafe
theorem nationalcertBackUpto_row_tie : Rows.nationalcertBackUptoRow.laidByTextAt .later Tryz.pinned [.data, .data] true :=
  OpenClaim.laidByTextAt_later rfl rfl tie2 noOwnUnsafe
theorem nationalchainProvesUpto_row_tie : Rows.nationalchainProvesUptoRow.laidByTextAt .later Tryz.pinned [.data, .data] true :=
  OpenClaim.laidByTextAt_later rfl rfl tie2 noOwnUnsafe
theorem nationalchainMadeUpto_row_tie : Rows.nationalchainMadeUptoRow.laidByTextAt .later Tryz.pinned [.data, .data] true :=
  OpenClaim.laidByTextAt_later rfl rfl tie2 noOwnUnsafe
theorem nationalchainGrowsUpto_row_tie : Rows.nationalchainGrowsUptoRow.laidByTextAt .later Tryz.pinned [.data, .data] true :=
  OpenClaim.laidByTextAt_later rfl rfl tie2 noOwnUnsafe
end Go.Proofs.YteilglpdmfiinaaGreatDoor
