/-
  DERIVED. GIVEN WITH THE SEED: THE PROGRAM's TIES (one call each: nine closed facts by the kernel) AND EACH ROW's TIE, after the 31st guide's Derived/Test/Toyas{Tie, Card}.lean. No idea stands in it: it is a product of the set-up. Laid BY PROGRAM, IN A SANDBOX (cutbox-door.mjs). By AI agents, Wed Nov 11 2026. No macro, syntax, notation, axiom, sorry.
-/
import Derived.Test.YthbpdhanljpigaaGreatDoorRows
import Derived.LaidByTextLater
import Derived.SevenTiedAt
import Derived.LaidSub
import Derived.LaidOnce
namespace Go.Proofs.YthbpdhanljpigaaGreatDoor
open Go
set_option maxRecDepth 100000
theorem seatTie1 : Tryz.prog.laidByTextLater [("traveldoc/traveldocref04.constants", Rows.laid_traveldoc_traveldocref04_constants), ("traveldoc/traveldocref15.tags", Rows.laid_traveldoc_traveldocref15_tags), ("traveldoc/digest.constants", Rows.laid_traveldoc_digest_constants), ("traveldoc/datagroups.tags", Rows.laid_traveldoc_datagroups_tags)] [.data, .data, .data, .data] true :=
  Program.laidByTextLater_by_one 29 8 65 (by kernel_rfl) (by kernel_rfl) (by kernel_rfl) (by kernel_rfl) (by kernel_rfl) (by kernel_rfl) (fun _ _ => by kernel_rfl)
theorem noOwnUnsafe : Tryz.pinned.checked.prog.headLifts.contains "ownunsafe" = false := by kernel_rfl
theorem tie : Tryz.prog.laidByTextLater [("traveldoc/traveldocref04.constants", Rows.laid_traveldoc_traveldocref04_constants), ("traveldoc/traveldocref15.tags", Rows.laid_traveldoc_traveldocref15_tags), ("traveldoc/digest.constants", Rows.laid_traveldoc_digest_constants), ("traveldoc/datagroups.tags", Rows.laid_traveldoc_datagroups_tags)] [.data, .data, .data, .data] true :=
  Program.laidByTextLater.sub seatTie1 ["traveldoc/traveldocref04.constants", "traveldoc/traveldocref15.tags", "traveldoc/digest.constants", "traveldoc/datagroups.tags"] (by kernel_rfl) (by kernel_rfl)
theorem securityobjectSigns_row_tie : Rows.securityobjectSignsRow.laidByTextAt .later Tryz.pinned [.data, .data, .data, .data] true :=
  OpenClaim.laidByTextAt_later rfl rfl tie noOwnUnsafe
theorem securityobjectDiffers_row_tie : Rows.securityobjectDiffersRow.laidByTextAt .later Tryz.pinned [.data, .data, .data, .data] true :=
  OpenClaim.laidByTextAt_later rfl rfl tie noOwnUnsafe
theorem securityobjectMade_row_tie : Rows.securityobjectMadeRow.laidByTextAt .later Tryz.pinned [.data, .data, .data, .data] true :=
  OpenClaim.laidByTextAt_later rfl rfl tie noOwnUnsafe
theorem securityobjectProves_row_tie : Rows.securityobjectProvesRow.laidByTextAt .later Tryz.pinned [.data, .data, .data, .data] true :=
  OpenClaim.laidByTextAt_later rfl rfl tie noOwnUnsafe
theorem tie2 : Tryz.prog.laidByTextLater [("traveldoc/traveldocref15.tags", Rows.laid_traveldoc_traveldocref15_tags), ("traveldoc/digest.constants", Rows.laid_traveldoc_digest_constants), ("traveldoc/datagroups.tags", Rows.laid_traveldoc_datagroups_tags)] [.data, .data, .data] true :=
  Program.laidByTextLater.sub seatTie1 ["traveldoc/traveldocref15.tags", "traveldoc/digest.constants", "traveldoc/datagroups.tags"] (by kernel_rfl) (by kernel_rfl)
theorem securityobjectExact_row_tie : Rows.securityobjectExactRow.laidByTextAt .later Tryz.pinned [.data, .data, .data] true :=
  OpenClaim.laidByTextAt_later rfl rfl tie2 noOwnUnsafe
theorem securityobjectSignsUpto_row_tie : Rows.securityobjectSignsUptoRow.laidByTextAt .later Tryz.pinned [.data, .data, .data, .data] true :=
  OpenClaim.laidByTextAt_later rfl rfl tie noOwnUnsafe
theorem securityobjectDiffersUpto_row_tie : Rows.securityobjectDiffersUptoRow.laidByTextAt .later Tryz.pinned [.data, .data, .data, .data] true :=
  OpenClaim.laidByTextAt_later rfl rfl tie noOwnUnsafe
theorem securityobjectExactUpto_row_tie : Rows.securityobjectExactUptoRow.laidByTextAt .later Tryz.pinned [.data, .data, .data] true :=
  OpenClaim.laidByTextAt_later rfl rfl tie2 noOwnUnsafe
theorem securityobjectMadeUpto_row_tie : Rows.securityobjectMadeUptoRow.laidByTextAt .later Tryz.pinned [.data, .data, .data, .data] true :=
  OpenClaim.laidByTextAt_later rfl rfl tie noOwnUnsafe
theorem securityobjectProvesUpto_row_tie : Rows.securityobjectProvesUptoRow.laidByTextAt .later Tryz.pinned [.data, .data, .data, .data] true :=
  OpenClaim.laidByTextAt_later rfl rfl tie noOwnUnsafe
end Go.Proofs.YthbpdhanljpigaaGreatDoor
