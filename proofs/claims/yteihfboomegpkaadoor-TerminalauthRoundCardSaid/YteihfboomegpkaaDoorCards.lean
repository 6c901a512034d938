/-
  DERIVED. GIVEN WITH THE SEED: THE CARDS: each row of YteihfboomegpkaaDoorRows.lean that lists a variable, with what it lists TIED to the program's text (the seventh form; the later family's looks); each row that meets fmt, with fmt's text TOLD by the authors' own Lean function (tested against real Go, not proved from fmt's source: count such statements apart). THE CARD IS WHAT COUNTS. Prove the row's statement (the work); the ties are given (YteihfboomegpkaaDoorTie.lean); close each card by the builder's one call (the guide's Derived/Test/ToyasCard.lean, 'card_holds'). Laid BY PROGRAM, IN A SANDBOX (cutbox-door.mjs). By AI agents, Wed Nov 11 2026. No macro, syntax, notation, axiom, sorry.
-/
import Derived.Test.YteihfboomegpkaaDoorRows
import GoSem.ClaimSeven
namespace Go.Proofs.YteihfboomegpkaaDoor
namespace Rows

/-- THE TIED CARD OF 'traveldoclaw04.DigestPads'. -/
def digestPadsCard : Claim7 := { stood := { row := digestPadsRow, standIns := [], harness := (true, "56b4b673ce5b81a10224e4cc67f188a948c3e1947eb90615302df7a7aaced5e9"), looks := false }, kinds := [], alts := [], laidByText := true, laidKinds := [.data], laidTests := true, laidLooks := .later }
def DigestPadsCardSaid : Prop := Claim7.holds Tryd.pinned (.plain (OpenSpec.ofChange digestPadsSpec)) digestPadsCard

/-- THE TIED CARD OF 'traveldoclaw04.DigestCompresses'. -/
def digestCompressesCard : Claim7 := { stood := { row := digestCompressesRow, standIns := [], harness := (true, "56b4b673ce5b81a10224e4cc67f188a948c3e1947eb90615302df7a7aaced5e9"), looks := false }, kinds := [], alts := [], laidByText := true, laidKinds := [.data, .data], laidTests := true, laidLooks := .later }
def DigestCompressesCardSaid : Prop := Claim7.holds Tryd.pinned (.plain (OpenSpec.ofChange digestCompressesSpec)) digestCompressesCard

/-- THE TIED CARD OF 'traveldoclaw04.DigestSums'. -/
def digestSumsCard : Claim7 := { stood := { row := digestSumsRow, standIns := [], harness := (true, "56b4b673ce5b81a10224e4cc67f188a948c3e1947eb90615302df7a7aaced5e9"), looks := false }, kinds := [], alts := [], laidByText := true, laidKinds := [.data, .data], laidTests := true, laidLooks := .later }
def DigestSumsCardSaid : Prop := Claim7.holds Tryd.pinned (.plain (OpenSpec.ofChange digestSumsSpec)) digestSumsCard

/-- THE TIED CARD OF 'traveldoclaw04.DigestGoesOn'. -/
def digestGoesOnCard : Claim7 := { stood := { row := digestGoesOnRow, standIns := [], harness := (true, "56b4b673ce5b81a10224e4cc67f188a948c3e1947eb90615302df7a7aaced5e9"), looks := false }, kinds := [], alts := [], laidByText := true, laidKinds := [.data], laidTests := true, laidLooks := .later }
def DigestGoesOnCardSaid : Prop := Claim7.holds Tryd.pinned (.plain (OpenSpec.ofChange digestGoesOnSpec)) digestGoesOnCard

/-- THE TIED CARD OF 'traveldoclaw04.DigestStandard'. -/
def digestStandardCard : Claim7 := { stood := { row := digestStandardRow, standIns := [], harness := (true, "56b4b673ce5b81a10224e4cc67f188a948c3e1947eb90615302df7a7aaced5e9"), looks := false }, kinds := [], alts := [], laidByText := true, laidKinds := [.data], laidTests := true, laidLooks := .later }
def DigestStandardCardSaid : Prop := Claim7.holds Tryd.pinned (.plain (OpenSpec.ofChange digestStandardSpec)) digestStandardCard

/-- THE TIED CARD OF 'traveldoclaw07.DeriveDraws'. -/
def deriveDrawsCard : Claim7 := { stood := { row := deriveDrawsRow, standIns := [], harness := (true, "56b4b673ce5b81a10224e4cc67f188a948c3e1947eb90615302df7a7aaced5e9"), looks := false }, kinds := [], alts := [], laidByText := true, laidKinds := [.data, .data], laidTests := true, laidLooks := .later }
def DeriveDrawsCardSaid : Prop := Claim7.holds Tryd.pinned (.plain (OpenSpec.ofChange deriveDrawsSpec)) deriveDrawsCard

/-- THE TIED CARD OF 'traveldoclaw07.DeriveBegins'. -/
def deriveBeginsCard : Claim7 := { stood := { row := deriveBeginsRow, standIns := [], harness := (true, "56b4b673ce5b81a10224e4cc67f188a948c3e1947eb90615302df7a7aaced5e9"), looks := false }, kinds := [], alts := [], laidByText := true, laidKinds := [.data], laidTests := true, laidLooks := .later }
def DeriveBeginsCardSaid : Prop := Claim7.holds Tryd.pinned (.plain (OpenSpec.ofChange deriveBeginsSpec)) deriveBeginsCard

/-- THE TIED CARD OF 'traveldoclaw07.DeriveKeys'. -/
def deriveKeysCard : Claim7 := { stood := { row := deriveKeysRow, standIns := [], harness := (true, "56b4b673ce5b81a10224e4cc67f188a948c3e1947eb90615302df7a7aaced5e9"), looks := false }, kinds := [], alts := [], laidByText := true, laidKinds := [.data, .data], laidTests := true, laidLooks := .later }
def DeriveKeysCardSaid : Prop := Claim7.holds Tryd.pinned (.plain (OpenSpec.ofChange deriveKeysSpec)) deriveKeysCard

/-- THE TIED CARD OF 'traveldoclaw07.DeriveSecrets'. -/
def deriveSecretsCard : Claim7 := { stood := { row := deriveSecretsRow, standIns := [], harness := (true, "56b4b673ce5b81a10224e4cc67f188a948c3e1947eb90615302df7a7aaced5e9"), looks := false }, kinds := [], alts := [], laidByText := true, laidKinds := [.data, .data], laidTests := true, laidLooks := .later }
def DeriveSecretsCardSaid : Prop := Claim7.holds Tryd.pinned (.plain (OpenSpec.ofChange deriveSecretsSpec)) deriveSecretsCard

/-- THE TIED CARD OF 'traveldoclaw09.SignSigns'. -/
def signSignsCard : Claim7 := { stood := { row := signSignsRow, standIns := [], harness := (true, "56b4b673ce5b81a10224e4cc67f188a948c3e1947eb90615302df7a7aaced5e9"), looks := false }, kinds := [], alts := [], laidByText := true, laidKinds := [.data, .data], laidTests := true, laidLooks := .later }
def SignSignsCardSaid : Prop := Claim7.holds Tryd.pinned (.plain (OpenSpec.ofChange signSignsSpec)) signSignsCard

/-- THE TIED CARD OF 'traveldoclaw09.SignVerifies'. -/
def signVerifiesCard : Claim7 := { stood := { row := signVerifiesRow, standIns := [], harness := (true, "56b4b673ce5b81a10224e4cc67f188a948c3e1947eb90615302df7a7aaced5e9"), looks := false }, kinds := [], alts := [], laidByText := true, laidKinds := [.data, .data], laidTests := true, laidLooks := .later }
def SignVerifiesCardSaid : Prop := Claim7.holds Tryd.pinned (.plain (OpenSpec.ofChange signVerifiesSpec)) signVerifiesCard

/-- THE TIED CARD OF 'traveldoclaw09.SignVerifiesMade'. -/
def signVerifiesMadeCard : Claim7 := { stood := { row := signVerifiesMadeRow, standIns := [], harness := (true, "56b4b673ce5b81a10224e4cc67f188a948c3e1947eb90615302df7a7aaced5e9"), looks := false }, kinds := [], alts := [], laidByText := true, laidKinds := [.data, .data], laidTests := true, laidLooks := .later }
def SignVerifiesMadeCardSaid : Prop := Claim7.holds Tryd.pinned (.plain (OpenSpec.ofChange signVerifiesMadeSpec)) signVerifiesMadeCard

/-- THE TIED CARD OF 'traveldoclaw09.SignRefuses'. -/
def signRefusesCard : Claim7 := { stood := { row := signRefusesRow, standIns := [], harness := (true, "56b4b673ce5b81a10224e4cc67f188a948c3e1947eb90615302df7a7aaced5e9"), looks := false }, kinds := [], alts := [], laidByText := true, laidKinds := [.data], laidTests := true, laidLooks := .later }
def SignRefusesCardSaid : Prop := Claim7.holds Tryd.pinned (.plain (OpenSpec.ofChange signRefusesSpec)) signRefusesCard

/-- THE TIED CARD OF 'traveldoclaw09.SignWrites'. -/
def signWritesCard : Claim7 := { stood := { row := signWritesRow, standIns := [], harness := (true, "56b4b673ce5b81a10224e4cc67f188a948c3e1947eb90615302df7a7aaced5e9"), looks := false }, kinds := [], alts := [], laidByText := true, laidKinds := [.data], laidTests := true, laidLooks := .later }
def SignWritesCardSaid : Prop := Claim7.holds Tryd.pinned (.plain (OpenSpec.ofChange signWritesSpec)) signWritesCard

/-- THE TIED CARD OF 'traveldoclaw27.TerminalauthMessages'. -/
def terminalauthMessagesCard : Claim7 := { stood := { row := terminalauthMessagesRow, standIns := [], harness := (true, "56b4b673ce5b81a10224e4cc67f188a948c3e1947eb90615302df7a7aaced5e9"), looks := false }, kinds := [], alts := [], laidByText := true, laidKinds := [.data], laidTests := true, laidLooks := .later }
def TerminalauthMessagesCardSaid : Prop := Claim7.holds Tryd.pinned (.plain (OpenSpec.ofChange terminalauthMessagesSpec)) terminalauthMessagesCard

/-- THE TIED CARD OF 'traveldoclaw27.TerminalauthProves'. -/
def terminalauthProvesCard : Claim7 := { stood := { row := terminalauthProvesRow, standIns := [], harness := (true, "56b4b673ce5b81a10224e4cc67f188a948c3e1947eb90615302df7a7aaced5e9"), looks := false }, kinds := [], alts := [], laidByText := true, laidKinds := [.data, .data], laidTests := true, laidLooks := .later }
def TerminalauthProvesCardSaid : Prop := Claim7.holds Tryd.pinned (.plain (OpenSpec.ofChange terminalauthProvesSpec)) terminalauthProvesCard

/-- THE TIED CARD OF 'traveldoclaw27.TerminalauthAccepts'. -/
def terminalauthAcceptsCard : Claim7 := { stood := { row := terminalauthAcceptsRow, standIns := [], harness := (true, "56b4b673ce5b81a10224e4cc67f188a948c3e1947eb90615302df7a7aaced5e9"), looks := false }, kinds := [], alts := [], laidByText := true, laidKinds := [.data, .data], laidTests := true, laidLooks := .later }
def TerminalauthAcceptsCardSaid : Prop := Claim7.holds Tryd.pinned (.plain (OpenSpec.ofChange terminalauthAcceptsSpec)) terminalauthAcceptsCard

/-- THE TIED CARD OF 'traveldoclaw27.TerminalauthRound'. -/
def terminalauthRoundCard : Claim7 := { stood := { row := terminalauthRoundRow, standIns := [], harness := (true, "56b4b673ce5b81a10224e4cc67f188a948c3e1947eb90615302df7a7aaced5e9"), looks := false }, kinds := [], alts := [], laidByText := true, laidKinds := [.data, .data], laidTests := true, laidLooks := .later }
def TerminalauthRoundCardSaid : Prop := Claim7.holds Tryd.pinned (.plain (OpenSpec.ofChange terminalauthRoundSpec)) terminalauthRoundCard

/-- THE SECOND FORM's CARD OF 'traveldoclaw04.DigestPads'. -/
def digestPadsUptoCard : Claim7 := { stood := { row := digestPadsUptoRow, standIns := [], harness := (true, "56b4b673ce5b81a10224e4cc67f188a948c3e1947eb90615302df7a7aaced5e9"), looks := false }, kinds := [], alts := [], laidByText := true, laidKinds := [.data], laidTests := true, laidLooks := .later }
def DigestPadsUptoCardSaid : Prop := Claim7.holds Tryd.pinned (.plain (OpenSpec.upto digestPadsSpec)) digestPadsUptoCard

/-- THE SECOND FORM's CARD OF 'traveldoclaw04.DigestCompresses'. -/
def digestCompressesUptoCard : Claim7 := { stood := { row := digestCompressesUptoRow, standIns := [], harness := (true, "56b4b673ce5b81a10224e4cc67f188a948c3e1947eb90615302df7a7aaced5e9"), looks := false }, kinds := [], alts := [], laidByText := true, laidKinds := [.data, .data], laidTests := true, laidLooks := .later }
def DigestCompressesUptoCardSaid : Prop := Claim7.holds Tryd.pinned (.plain (OpenSpec.upto digestCompressesSpec)) digestCompressesUptoCard

/-- THE SECOND FORM's CARD OF 'traveldoclaw04.DigestSums'. -/
def digestSumsUptoCard : Claim7 := { stood := { row := digestSumsUptoRow, standIns := [], harness := (true, "56b4b673ce5b81a10224e4cc67f188a948c3e1947eb90615302df7a7aaced5e9"), looks := false }, kinds := [], alts := [], laidByText := true, laidKinds := [.data, .data], laidTests := true, laidLooks := .later }
def DigestSumsUptoCardSaid : Prop := Claim7.holds Tryd.pinned (.plain (OpenSpec.upto digestSumsSpec)) digestSumsUptoCard

/-- THE SECOND FORM's CARD OF 'traveldoclaw04.DigestGoesOn'. -/
def digestGoesOnUptoCard : Claim7 := { stood := { row := digestGoesOnUptoRow, standIns := [], harness := (true, "56b4b673ce5b81a10224e4cc67f188a948c3e1947eb90615302df7a7aaced5e9"), looks := false }, kinds := [], alts := [], laidByText := true, laidKinds := [.data], laidTests := true, laidLooks := .later }
def DigestGoesOnUptoCardSaid : Prop := Claim7.holds Tryd.pinned (.plain (OpenSpec.upto digestGoesOnSpec)) digestGoesOnUptoCard

/-- THE SECOND FORM's CARD OF 'traveldoclaw04.DigestStandard'. -/
def digestStandardUptoCard : Claim7 := { stood := { row := digestStandardUptoRow, standIns := [], harness := (true, "56b4b673ce5b81a10224e4cc67f188a948c3e1947eb90615302df7a7aaced5e9"), looks := false }, kinds := [], alts := [], laidByText := true, laidKinds := [.data], laidTests := true, laidLooks := .later }
def DigestStandardUptoCardSaid : Prop := Claim7.holds Tryd.pinned (.plain (OpenSpec.upto digestStandardSpec)) digestStandardUptoCard

/-- THE SECOND FORM's CARD OF 'traveldoclaw07.DeriveDraws'. -/
def deriveDrawsUptoCard : Claim7 := { stood := { row := deriveDrawsUptoRow, standIns := [], harness := (true, "56b4b673ce5b81a10224e4cc67f188a948c3e1947eb90615302df7a7aaced5e9"), looks := false }, kinds := [], alts := [], laidByText := true, laidKinds := [.data, .data], laidTests := true, laidLooks := .later }
def DeriveDrawsUptoCardSaid : Prop := Claim7.holds Tryd.pinned (.plain (OpenSpec.upto deriveDrawsSpec)) deriveDrawsUptoCard

/-- THE SECOND FORM's CARD OF 'traveldoclaw07.DeriveBegins'. -/
def deriveBeginsUptoCard : Claim7 := { stood := { row := deriveBeginsUptoRow, standIns := [], harness := (true, "56b4b673ce5b81a10224e4cc67f188a948c3e1947eb90615302df7a7aaced5e9"), looks := false }, kinds := [], alts := [], laidByText := true, laidKinds := [.data], laidTests := true, laidLooks := .later }
def DeriveBeginsUptoCardSaid : Prop := Claim7.holds Tryd.pinned (.plain (OpenSpec.upto deriveBeginsSpec)) deriveBeginsUptoCard

/-- THE SECOND FORM's CARD OF 'traveldoclaw07.DeriveKeys'. -/
def deriveKeysUptoCard : Claim7 := { stood := { row := deriveKeysUptoRow, standIns := [], harness := (true, "56b4b673ce5b81a10224e4cc67f188a948c3e1947eb90615302df7a7aaced5e9"), looks := false }, kinds := [], alts := [], laidByText := true, laidKinds := [.data, .data], laidTests := true, laidLooks := .later }
def DeriveKeysUptoCardSaid : Prop := Claim7.holds Tryd.pinned (.plain (OpenSpec.upto deriveKeysSpec)) deriveKeysUptoCard

/-- THE SECOND FORM's CARD OF 'traveldoclaw07.DeriveSecrets'. -/
def deriveSecretsUptoCard : Claim7 := { stood := { row := deriveSecretsUptoRow, standIns := [], harness := (true, "56b4b673ce5b81a10224e4cc67f188a948c3e1947eb90615302df7a7aaced5e9"), looks := false }, kinds := [], alts := [], laidByText := true, laidKinds := [.data, .data], laidTests := true, laidLooks := .later }
def DeriveSecretsUptoCardSaid : Prop := Claim7.holds Tryd.pinned (.plain (OpenSpec.upto deriveSecretsSpec)) deriveSecretsUptoCard

/-- THE SECOND FORM's CARD OF 'traveldoclaw09.SignSigns'. -/
def signSignsUptoCard : Claim7 := { stood := { row := signSignsUptoRow, standIns := [], harness := (true, "56b4b673ce5b81a10224e4cc67f188a948c3e1947eb90615302df7a7aaced5e9"), looks := false }, kinds := [], alts := [], laidByText := true, laidKinds := [.data, .data], laidTests := true, laidLooks := .later }
def SignSignsUptoCardSaid : Prop := Claim7.holds Tryd.pinned (.plain (OpenSpec.upto signSignsSpec)) signSignsUptoCard

/-- THE SECOND FORM's CARD OF 'traveldoclaw09.SignVerifies'. -/
def signVerifiesUptoCard : Claim7 := { stood := { row := signVerifiesUptoRow, standIns := [], harness := (true, "56b4b673ce5b81a10224e4cc67f188a948c3e1947eb90615302df7a7aaced5e9"), looks := false }, kinds := [], alts := [], laidByText := true, laidKinds := [.data, .data], laidTests := true, laidLooks := .later }
def SignVerifiesUptoCardSaid : Prop := Claim7.holds Tryd.pinned (.plain (OpenSpec.upto signVerifiesSpec)) signVerifiesUptoCard

/-- THE SECOND FORM's CARD OF 'traveldoclaw09.SignVerifiesMade'. -/
def signVerifiesMadeUptoCard : Claim7 := { stood := { row := signVerifiesMadeUptoRow, standIns := [], harness := (true, "56b4b673ce5b81a10224e4cc67f188a948c3e1947eb90615302df7a7aaced5e9"), looks := false }, kinds := [], alts := [], laidByText := true, laidKinds := [.data, .data], laidTests := true, laidLooks := .later }
def SignVerifiesMadeUptoCardSaid : Prop := Claim7.holds Tryd.pinned (.plain (OpenSpec.upto signVerifiesMadeSpec)) signVerifiesMadeUptoCard

/-- THE SECOND FORM's CARD OF 'traveldoclaw09.SignRefuses'. -/
def signRefusesUptoCard : Claim7 := { stood := { row := signRefusesUptoRow, standIns := [], harness := (true, "56b4b673ce5b81a10224e4cc67f188a948c3e1947eb90615302df7a7aaced5e9"), looks := false }, kinds := [], alts := [], laidByText := true, laidKinds := [.data], laidTests := true, laidLooks := .later }
def SignRefusesUptoCardSaid : Prop := Claim7.holds Tryd.pinned (.plain (OpenSpec.upto signRefusesSpec)) signRefusesUptoCard

/-- THE SECOND FORM's CARD OF 'traveldoclaw09.SignWrites'. -/
def signWritesUptoCard : Claim7 := { stood := { row := signWritesUptoRow, standIns := [], harness := (true, "56b4b673ce5b81a10224e4cc67f188a948c3e1947eb90615302df7a7aaced5e9"), looks := false }, kinds := [], alts := [], laidByText := true, laidKinds := [.data], laidTests := true, laidLooks := .later }
def SignWritesUptoCardSaid : Prop := Claim7.holds Tryd.pinned (.plain (OpenSpec.upto signWritesSpec)) signWritesUptoCard

/-- THE SECOND FORM's CARD OF 'traveldoclaw27.TerminalauthMessages'. -/
def terminalauthMessagesUptoCard : Claim7 := { stood := { row := terminalauthMessagesUptoRow, standIns := [], harness := (true, "56b4b673ce5b81a10224e4cc67f188a948c3e1947eb90615302df7a7aaced5e9"), looks := false }, kinds := [], alts := [], laidByText := true, laidKinds := [.data], laidTests := true, laidLooks := .later }
def TerminalauthMessagesUptoCardSaid : Prop := Claim7.holds Tryd.pinned (.plain (OpenSpec.upto terminalauthMessagesSpec)) terminalauthMessagesUptoCard

/-- THE SECOND FORM's CARD OF 'traveldoclaw27.TerminalauthProves'. -/
def terminalauthProvesUptoCard : Claim7 := { stood := { row := terminalauthProvesUptoRow, standIns := [], harness := (true, "56b4b673ce5b81a10224e4cc67f188a948c3e1947eb90615302df7a7aaced5e9"), looks := false }, kinds := [], alts := [], laidByText := true, laidKinds := [.data, .data], laidTests := true, laidLooks := .later }
def TerminalauthProvesUptoCardSaid : Prop := Claim7.holds Tryd.pinned (.plain (OpenSpec.upto terminalauthProvesSpec)) terminalauthProvesUptoCard

/-- THE SECOND FORM's CARD OF 'traveldoclaw27.TerminalauthAccepts'. -/
def terminalauthAcceptsUptoCard : Claim7 := { stood := { row := terminalauthAcceptsUptoRow, standIns := [], harness := (true, "56b4b673ce5b81a10224e4cc67f188a948c3e1947eb90615302df7a7aaced5e9"), looks := false }, kinds := [], alts := [], laidByText := true, laidKinds := [.data, .data], laidTests := true, laidLooks := .later }
def TerminalauthAcceptsUptoCardSaid : Prop := Claim7.holds Tryd.pinned (.plain (OpenSpec.upto terminalauthAcceptsSpec)) terminalauthAcceptsUptoCard

/-- THE SECOND FORM's CARD OF 'traveldoclaw27.TerminalauthRound'. -/
def terminalauthRoundUptoCard : Claim7 := { stood := { row := terminalauthRoundUptoRow, standIns := [], harness := (true, "56b4b673ce5b81a10224e4cc67f188a948c3e1947eb90615302df7a7aaced5e9"), looks := false }, kinds := [], alts := [], laidByText := true, laidKinds := [.data, .data], laidTests := true, laidLooks := .later }
def TerminalauthRoundUptoCardSaid : Prop := Claim7.holds Tryd.pinned (.plain (OpenSpec.upto terminalauthRoundSpec)) terminalauthRoundUptoCard
end Rows
end Go.Proofs.YteihfboomegpkaaDoor
