/-
  DERIVED. GIVEN WITH THE SEED: THE CARDS: each row of YthbpdhanljpigaaGreatDoorRows.lean that lists a variable, with what it lists TIED to the program's text (the seventh form; the later family's looks); each row that meets fmt, with fmt's text TOLD by the authors' own Lean function (tested against real Go, not proved from fmt's source: count such statements apart). THE CARD IS WHAT COUNTS. Prove the row's statement (the work); the ties are given (YthbpdhanljpigaaGreatDoorTie.lean); close each card by the builder's one call (the guide's Derived/Test/ToyasCard.lean, 'card_holds'). Laid BY PROGRAM, IN A SANDBOX (cutbox-door.mjs). By AI agents, Wed Nov 11 2026. No macro, syntax, notation, axiom, sorry.
-/
import Derived.Test.YthbpdhanljpigaaGreatDoorRows
import GoSem.ClaimSeven
namespace Go.Proofs.YthbpdhanljpigaaGreatDoor
namespace Rows

/-- THE TIED CARD OF 'traveldoclaw16.SecurityobjectSigns'. -/
def securityobjectSignsCard : Claim7 := { stood := { row := securityobjectSignsRow, standIns := [], harness := (true, "c88ce5482bcff8dd728532485c2d67cbe6d262cbe2b8ea90b56972563b653410"), looks := false }, kinds := [], alts := [], laidByText := true, laidKinds := [.data, .data, .data, .data], laidTests := true, laidLooks := .later }
def SecurityobjectSignsCardSaid : Prop := Claim7.holds Tryz.pinned (.plain (OpenSpec.ofChange securityobjectSignsSpec)) securityobjectSignsCard

/-- THE TIED CARD OF 'traveldoclaw16.SecurityobjectDiffers'. -/
def securityobjectDiffersCard : Claim7 := { stood := { row := securityobjectDiffersRow, standIns := [], harness := (true, "c88ce5482bcff8dd728532485c2d67cbe6d262cbe2b8ea90b56972563b653410"), looks := false }, kinds := [], alts := [], laidByText := true, laidKinds := [.data, .data, .data, .data], laidTests := true, laidLooks := .later }
def SecurityobjectDiffersCardSaid : Prop := Claim7.holds Tryz.pinned (.plain (OpenSpec.ofChange securityobjectDiffersSpec)) securityobjectDiffersCard

/-- THE TIED CARD OF 'traveldoclaw16.SecurityobjectExact'. -/
def securityobjectExactCard : Claim7 := { stood := { row := securityobjectExactRow, standIns := [], harness := (true, "c88ce5482bcff8dd728532485c2d67cbe6d262cbe2b8ea90b56972563b653410"), looks := false }, kinds := [], alts := [], laidByText := true, laidKinds := [.data, .data, .data], laidTests := true, laidLooks := .later }
def SecurityobjectExactCardSaid : Prop := Claim7.holds Tryz.pinned (.plain (OpenSpec.ofChange securityobjectExactSpec)) securityobjectExactCard

/-- THE TIED CARD OF 'traveldoclaw16.SecurityobjectMade'. -/
def securityobjectMadeCard : Claim7 := { stood := { row := securityobjectMadeRow, standIns := [], harness := (true, "c88ce5482bcff8dd728532485c2d67cbe6d262cbe2b8ea90b56972563b653410"), looks := false }, kinds := [], alts := [], laidByText := true, laidKinds := [.data, .data, .data, .data], laidTests := true, laidLooks := .later }
def SecurityobjectMadeCardSaid : Prop := Claim7.holds Tryz.pinned (.plain (OpenSpec.ofChange securityobjectMadeSpec)) securityobjectMadeCard

/-- THE TIED CARD OF 'traveldoclaw16.SecurityobjectProves'. -/
def securityobjectProvesCard : Claim7 := { stood := { row := securityobjectProvesRow, standIns := [], harness := (true, "c88ce5482bcff8dd728532485c2d67cbe6d262cbe2b8ea90b56972563b653410"), looks := false }, kinds := [], alts := [], laidByText := true, laidKinds := [.data, .data, .data, .data], laidTests := true, laidLooks := .later }
def SecurityobjectProvesCardSaid : Prop := Claim7.holds Tryz.pinned (.plain (OpenSpec.ofChange securityobjectProvesSpec)) securityobjectProvesCard

/-- THE SECOND FORM's CARD OF 'traveldoclaw16.SecurityobjectSigns'. -/
def securityobjectSignsUptoCard : Claim7 := { stood := { row := securityobjectSignsUptoRow, standIns := [], harness := (true, "c88ce5482bcff8dd728532485c2d67cbe6d262cbe2b8ea90b56972563b653410"), looks := false }, kinds := [], alts := [], laidByText := true, laidKinds := [.data, .data, .data, .data], laidTests := true, laidLooks := .later }
def SecurityobjectSignsUptoCardSaid : Prop := Claim7.holds Tryz.pinned (.plain (OpenSpec.upto securityobjectSignsSpec)) securityobjectSignsUptoCard

/-- THE SECOND FORM's CARD OF 'traveldoclaw16.SecurityobjectDiffers'. -/
def securityobjectDiffersUptoCard : Claim7 := { stood := { row := securityobjectDiffersUptoRow, standIns := [], harness := (true, "c88ce5482bcff8dd728532485c2d67cbe6d262cbe2b8ea90b56972563b653410"), looks := false }, kinds := [], alts := [], laidByText := true, laidKinds := [.data, .data, .data, .data], laidTests := true, laidLooks := .later }
def SecurityobjectDiffersUptoCardSaid : Prop := Claim7.holds Tryz.pinned (.plain (OpenSpec.upto securityobjectDiffersSpec)) securityobjectDiffersUptoCard

/-- THE SECOND FORM's CARD OF 'traveldoclaw16.SecurityobjectExact'. -/
def securityobjectExactUptoCard : Claim7 := { stood := { row := securityobjectExactUptoRow, standIns := [], harness := (true, "c88ce5482bcff8dd728532485c2d67cbe6d262cbe2b8ea90b56972563b653410"), looks := false }, kinds := [], alts := [], laidByText := true, laidKinds := [.data, .data, .data], laidTests := true, laidLooks := .later }
def SecurityobjectExactUptoCardSaid : Prop := Claim7.holds Tryz.pinned (.plain (OpenSpec.upto securityobjectExactSpec)) securityobjectExactUptoCard

/-- THE SECOND FORM's CARD OF 'traveldoclaw16.SecurityobjectMade'. -/
def securityobjectMadeUptoCard : Claim7 := { stood := { row := securityobjectMadeUptoRow, standIns := [], harness := (true, "c88ce5482bcff8dd728532485c2d67cbe6d262cbe2b8ea90b56972563b653410"), looks := false }, kinds := [], alts := [], laidByText := true, laidKinds := [.data, .data, .data, .data], laidTests := true, laidLooks := .later }
def SecurityobjectMadeUptoCardSaid : Prop := Claim7.holds Tryz.pinned (.plain (OpenSpec.upto securityobjectMadeSpec)) securityobjectMadeUptoCard

/-- THE SECOND FORM's CARD OF 'traveldoclaw16.SecurityobjectProves'. -/
def securityobjectProvesUptoCard : Claim7 := { stood := { row := securityobjectProvesUptoRow, standIns := [], harness := (true, "c88ce5482bcff8dd728532485c2d67cbe6d262cbe2b8ea90b56972563b653410"), looks := false }, kinds := [], alts := [], laidByText := true, laidKinds := [.data, .data, .data, .data], laidTests := true, laidLooks := .later }
def SecurityobjectProvesUptoCardSaid : Prop := Claim7.holds Tryz.pinned (.plain (OpenSpec.upto securityobjectProvesSpec)) securityobjectProvesUptoCard
end Rows
end Go.Proofs.YthbpdhanljpigaaGreatDoor
