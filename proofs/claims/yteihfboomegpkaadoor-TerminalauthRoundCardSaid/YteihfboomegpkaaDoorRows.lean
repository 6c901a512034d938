/-
  NARROWER THAN 'FOR EVERY INPUT', by the rows' own cells (each row's printed sentence says how): DigestPads: laid · DigestCompresses: laid · DigestSums: laid · DigestGoesOn: laid · DigestStandard: laid · DeriveDraws: laid · DeriveBegins: laid · DeriveKeys: laid · DeriveSecrets: laid · SignSigns: laid · SignVerifies: laid · SignVerifiesMade: laid · SignRefuses: laid · SignWrites: laid · TerminalauthMessages: laid · TerminalauthProves: laid · TerminalauthAccepts: laid · TerminalauthRound: laid.
  DERIVED. THE GIVEN ROWS OF THIS SEAT. 18 by the template 'for every input the law returns true; each argument reads behind the call as it read before'; 0 by the template 'total and deterministic' (their statements: YteihfboomegpkaaDoorTotals.lean).
  GIVEN WITH THE SEED: the statements are not yours to turn. If you find one false, say at which input.
  Laid BY PROGRAM, IN A SANDBOX (cutbox-rows.mjs): the forced cells as the released guide's own fill.sh prints them over the translation 7de2a2580983b673… (all of the seat's roots in one cut). By AI agents, Wed Nov 11 2026. No macro, syntax, notation, axiom, sorry.
-/
import Derived.Test.YteihfboomegpkaaDoorChecked
import GoSem.Claim
import GoSem.ClaimJoined
import GoSem.ClaimMapViews
import Derived.JoinedTies
import Derived.KernelRfl
namespace Go.Proofs.YteihfboomegpkaaDoor
/- THE CELL 'sum', in the pinned program and in every row, IS THE sha256 OF THE DUMP (.gsa) THAT YteihfboomegpkaaDoorProg.lean LOADS. Nothing in Lean hashes anything: it is a label: what it is worth is what the hold of that sum in a sandbox is worth. -/
noncomputable def Tryd.pinned : Pinned := { name := "yteihfboomegpkaadoor", sum := "7de2a2580983b673b7fc53aa6428ebb29b27cf8f24ad86ae715d06d9184de78b", checked := Tryd.checked }
namespace Rows
def none {H : Type} : Left H := { results := [], args := [] }

/- WHAT THE LISTED PACKAGE-LEVEL VARIABLES READ AS WHEN THE CALL BEGINS. Each datum BY PROGRAM (the guide's laid-datum.mjs) off the statement by which the dump's own 'gosem.cut.vars' lays the variable. In a bare row this is a premise. The card (YteihfboomegpkaaDoorCards.lean) ties it to the program's text. -/
def laid_traveldoc_digest_constants {H : Type} : DataW H := .agg [.lit (.int .u32 1116352408), .lit (.int .u32 1899447441), .lit (.int .u32 3049323471), .lit (.int .u32 3921009573), .lit (.int .u32 961987163), .lit (.int .u32 1508970993), .lit (.int .u32 2453635748), .lit (.int .u32 2870763221), .lit (.int .u32 3624381080), .lit (.int .u32 310598401), .lit (.int .u32 607225278), .lit (.int .u32 1426881987), .lit (.int .u32 1925078388), .lit (.int .u32 2162078206), .lit (.int .u32 2614888103), .lit (.int .u32 3248222580), .lit (.int .u32 3835390401), .lit (.int .u32 4022224774), .lit (.int .u32 264347078), .lit (.int .u32 604807628), .lit (.int .u32 770255983), .lit (.int .u32 1249150122), .lit (.int .u32 1555081692), .lit (.int .u32 1996064986), .lit (.int .u32 2554220882), .lit (.int .u32 2821834349), .lit (.int .u32 2952996808), .lit (.int .u32 3210313671), .lit (.int .u32 3336571891), .lit (.int .u32 3584528711), .lit (.int .u32 113926993), .lit (.int .u32 338241895), .lit (.int .u32 666307205), .lit (.int .u32 773529912), .lit (.int .u32 1294757372), .lit (.int .u32 1396182291), .lit (.int .u32 1695183700), .lit (.int .u32 1986661051), .lit (.int .u32 2177026350), .lit (.int .u32 2456956037), .lit (.int .u32 2730485921), .lit (.int .u32 2820302411), .lit (.int .u32 3259730800), .lit (.int .u32 3345764771), .lit (.int .u32 3516065817), .lit (.int .u32 3600352804), .lit (.int .u32 4094571909), .lit (.int .u32 275423344), .lit (.int .u32 430227734), .lit (.int .u32 506948616), .lit (.int .u32 659060556), .lit (.int .u32 883997877), .lit (.int .u32 958139571), .lit (.int .u32 1322822218), .lit (.int .u32 1537002063), .lit (.int .u32 1747873779), .lit (.int .u32 1955562222), .lit (.int .u32 2024104815), .lit (.int .u32 2227730452), .lit (.int .u32 2361852424), .lit (.int .u32 2428436474), .lit (.int .u32 2756734187), .lit (.int .u32 3204031479), .lit (.int .u32 3329325298)]
def laid_traveldoc_traveldocref04_constants {H : Type} : DataW H := .agg [.lit (.int .u32 1116352408), .lit (.int .u32 1899447441), .lit (.int .u32 3049323471), .lit (.int .u32 3921009573), .lit (.int .u32 961987163), .lit (.int .u32 1508970993), .lit (.int .u32 2453635748), .lit (.int .u32 2870763221), .lit (.int .u32 3624381080), .lit (.int .u32 310598401), .lit (.int .u32 607225278), .lit (.int .u32 1426881987), .lit (.int .u32 1925078388), .lit (.int .u32 2162078206), .lit (.int .u32 2614888103), .lit (.int .u32 3248222580), .lit (.int .u32 3835390401), .lit (.int .u32 4022224774), .lit (.int .u32 264347078), .lit (.int .u32 604807628), .lit (.int .u32 770255983), .lit (.int .u32 1249150122), .lit (.int .u32 1555081692), .lit (.int .u32 1996064986), .lit (.int .u32 2554220882), .lit (.int .u32 2821834349), .lit (.int .u32 2952996808), .lit (.int .u32 3210313671), .lit (.int .u32 3336571891), .lit (.int .u32 3584528711), .lit (.int .u32 113926993), .lit (.int .u32 338241895), .lit (.int .u32 666307205), .lit (.int .u32 773529912), .lit (.int .u32 1294757372), .lit (.int .u32 1396182291), .lit (.int .u32 1695183700), .lit (.int .u32 1986661051), .lit (.int .u32 2177026350), .lit (.int .u32 2456956037), .lit (.int .u32 2730485921), .lit (.int .u32 2820302411), .lit (.int .u32 3259730800), .lit (.int .u32 3345764771), .lit (.int .u32 3516065817), .lit (.int .u32 3600352804), .lit (.int .u32 4094571909), .lit (.int .u32 275423344), .lit (.int .u32 430227734), .lit (.int .u32 506948616), .lit (.int .u32 659060556), .lit (.int .u32 883997877), .lit (.int .u32 958139571), .lit (.int .u32 1322822218), .lit (.int .u32 1537002063), .lit (.int .u32 1747873779), .lit (.int .u32 1955562222), .lit (.int .u32 2024104815), .lit (.int .u32 2227730452), .lit (.int .u32 2361852424), .lit (.int .u32 2428436474), .lit (.int .u32 2756734187), .lit (.int .u32 3204031479), .lit (.int .u32 3329325298)]

/-- 'traveldoclaw04.DigestPads': WHATEVER THE INPUT: true; the input reads as it did. -/
def digestPadsSpec : ChangeSpec := { name := "digestPads", fn := fun _ => fun
  | [d] => { results := [.lit (.bool true)], args := [d] }
  | _ => none }
def digestPadsRow : OpenClaim := { program := "yteihfboomegpkaadoor", sum := "7de2a2580983b673b7fc53aa6428ebb29b27cf8f24ad86ae715d06d9184de78b", func := "traveldoc/traveldoclaw04.DigestPads", spec := "digestPads", unfollowed := true, recurses := true, named := ["traveldoc/digest.constants"], apart := false, laid := [("traveldoc/digest.constants", laid_traveldoc_digest_constants)] }
def DigestPadsSaid : Prop := digestPadsRow.holds Tryd.pinned (OpenSpec.ofChange digestPadsSpec)

/-- ITS FALSE NEIGHBOUR: 'it returns false'. Refute it at one input. -/
def digestPadsWrong : ChangeSpec := { name := "digestPads", fn := fun _ => fun
  | [d] => { results := [.lit (.bool false)], args := [d] }
  | _ => none }
def DigestPadsWrongFalsely : Prop := digestPadsRow.holds Tryd.pinned (OpenSpec.ofChange digestPadsWrong)

/-- 'traveldoclaw04.DigestCompresses': WHATEVER THE INPUT: true; the input reads as it did. -/
def digestCompressesSpec : ChangeSpec := { name := "digestCompresses", fn := fun _ => fun
  | [d1, d2] => { results := [.lit (.bool true)], args := [d1, d2] }
  | _ => none }
def digestCompressesRow : OpenClaim := { program := "yteihfboomegpkaadoor", sum := "7de2a2580983b673b7fc53aa6428ebb29b27cf8f24ad86ae715d06d9184de78b", func := "traveldoc/traveldoclaw04.DigestCompresses", spec := "digestCompresses", unfollowed := true, recurses := true, named := ["traveldoc/digest.constants", "traveldoc/traveldocref04.constants"], apart := false, laid := [("traveldoc/traveldocref04.constants", laid_traveldoc_traveldocref04_constants), ("traveldoc/digest.constants", laid_traveldoc_digest_constants)] }
def DigestCompressesSaid : Prop := digestCompressesRow.holds Tryd.pinned (OpenSpec.ofChange digestCompressesSpec)

/-- ITS FALSE NEIGHBOUR: 'it returns false'. Refute it at one input. -/
def digestCompressesWrong : ChangeSpec := { name := "digestCompresses", fn := fun _ => fun
  | [d1, d2] => { results := [.lit (.bool false)], args := [d1, d2] }
  | _ => none }
def DigestCompressesWrongFalsely : Prop := digestCompressesRow.holds Tryd.pinned (OpenSpec.ofChange digestCompressesWrong)

/-- 'traveldoclaw04.DigestSums': WHATEVER THE INPUT: true; the input reads as it did. -/
def digestSumsSpec : ChangeSpec := { name := "digestSums", fn := fun _ => fun
  | [d] => { results := [.lit (.bool true)], args := [d] }
  | _ => none }
def digestSumsRow : OpenClaim := { program := "yteihfboomegpkaadoor", sum := "7de2a2580983b673b7fc53aa6428ebb29b27cf8f24ad86ae715d06d9184de78b", func := "traveldoc/traveldoclaw04.DigestSums", spec := "digestSums", unfollowed := true, recurses := true, named := ["traveldoc/digest.constants", "traveldoc/traveldocref04.constants"], apart := false, laid := [("traveldoc/traveldocref04.constants", laid_traveldoc_traveldocref04_constants), ("traveldoc/digest.constants", laid_traveldoc_digest_constants)] }
def DigestSumsSaid : Prop := digestSumsRow.holds Tryd.pinned (OpenSpec.ofChange digestSumsSpec)

/-- ITS FALSE NEIGHBOUR: 'it returns false'. Refute it at one input. -/
def digestSumsWrong : ChangeSpec := { name := "digestSums", fn := fun _ => fun
  | [d] => { results := [.lit (.bool false)], args := [d] }
  | _ => none }
def DigestSumsWrongFalsely : Prop := digestSumsRow.holds Tryd.pinned (OpenSpec.ofChange digestSumsWrong)

/-- 'traveldoclaw04.DigestGoesOn': WHATEVER THE INPUT: true; the input reads as it did. -/
def digestGoesOnSpec : ChangeSpec := { name := "digestGoesOn", fn := fun _ => fun
  | [d1, d2] => { results := [.lit (.bool true)], args := [d1, d2] }
  | _ => none }
def digestGoesOnRow : OpenClaim := { program := "yteihfboomegpkaadoor", sum := "7de2a2580983b673b7fc53aa6428ebb29b27cf8f24ad86ae715d06d9184de78b", func := "traveldoc/traveldoclaw04.DigestGoesOn", spec := "digestGoesOn", unfollowed := true, recurses := true, named := ["traveldoc/digest.constants"], apart := false, laid := [("traveldoc/digest.constants", laid_traveldoc_digest_constants)] }
def DigestGoesOnSaid : Prop := digestGoesOnRow.holds Tryd.pinned (OpenSpec.ofChange digestGoesOnSpec)

/-- ITS FALSE NEIGHBOUR: 'it returns false'. Refute it at one input. -/
def digestGoesOnWrong : ChangeSpec := { name := "digestGoesOn", fn := fun _ => fun
  | [d1, d2] => { results := [.lit (.bool false)], args := [d1, d2] }
  | _ => none }
def DigestGoesOnWrongFalsely : Prop := digestGoesOnRow.holds Tryd.pinned (OpenSpec.ofChange digestGoesOnWrong)

/-- 'traveldoclaw04.DigestStandard': WHATEVER THE INPUT: true; the input reads as it did. -/
def digestStandardSpec : ChangeSpec := { name := "digestStandard", fn := fun _ => fun
  | [] => { results := [.lit (.bool true)], args := [] }
  | _ => none }
def digestStandardRow : OpenClaim := { program := "yteihfboomegpkaadoor", sum := "7de2a2580983b673b7fc53aa6428ebb29b27cf8f24ad86ae715d06d9184de78b", func := "traveldoc/traveldoclaw04.DigestStandard", spec := "digestStandard", unfollowed := true, recurses := true, named := ["traveldoc/digest.constants"], apart := false, laid := [("traveldoc/digest.constants", laid_traveldoc_digest_constants)] }
def DigestStandardSaid : Prop := digestStandardRow.holds Tryd.pinned (OpenSpec.ofChange digestStandardSpec)

/-- ITS FALSE NEIGHBOUR: 'it returns false'. Refute it at one input. -/
def digestStandardWrong : ChangeSpec := { name := "digestStandard", fn := fun _ => fun
  | [] => { results := [.lit (.bool false)], args := [] }
  | _ => none }
def DigestStandardWrongFalsely : Prop := digestStandardRow.holds Tryd.pinned (OpenSpec.ofChange digestStandardWrong)

/-- 'traveldoclaw07.DeriveDraws': WHATEVER THE INPUT: true; the input reads as it did. -/
def deriveDrawsSpec : ChangeSpec := { name := "deriveDraws", fn := fun _ => fun
  | [d1, d2] => { results := [.lit (.bool true)], args := [d1, d2] }
  | _ => none }
def deriveDrawsRow : OpenClaim := { program := "yteihfboomegpkaadoor", sum := "7de2a2580983b673b7fc53aa6428ebb29b27cf8f24ad86ae715d06d9184de78b", func := "traveldoc/traveldoclaw07.DeriveDraws", spec := "deriveDraws", unfollowed := true, recurses := true, named := ["traveldoc/digest.constants", "traveldoc/traveldocref04.constants"], apart := false, laid := [("traveldoc/traveldocref04.constants", laid_traveldoc_traveldocref04_constants), ("traveldoc/digest.constants", laid_traveldoc_digest_constants)] }
def DeriveDrawsSaid : Prop := deriveDrawsRow.holds Tryd.pinned (OpenSpec.ofChange deriveDrawsSpec)

/-- ITS FALSE NEIGHBOUR: 'it returns false'. Refute it at one input. -/
def deriveDrawsWrong : ChangeSpec := { name := "deriveDraws", fn := fun _ => fun
  | [d1, d2] => { results := [.lit (.bool false)], args := [d1, d2] }
  | _ => none }
def DeriveDrawsWrongFalsely : Prop := deriveDrawsRow.holds Tryd.pinned (OpenSpec.ofChange deriveDrawsWrong)

/-- 'traveldoclaw07.DeriveBegins': WHATEVER THE INPUT: true; the input reads as it did. -/
def deriveBeginsSpec : ChangeSpec := { name := "deriveBegins", fn := fun _ => fun
  | [d1, d2, d3] => { results := [.lit (.bool true)], args := [d1, d2, d3] }
  | _ => none }
def deriveBeginsRow : OpenClaim := { program := "yteihfboomegpkaadoor", sum := "7de2a2580983b673b7fc53aa6428ebb29b27cf8f24ad86ae715d06d9184de78b", func := "traveldoc/traveldoclaw07.DeriveBegins", spec := "deriveBegins", unfollowed := true, recurses := true, named := ["traveldoc/digest.constants"], apart := false, laid := [("traveldoc/digest.constants", laid_traveldoc_digest_constants)] }
def DeriveBeginsSaid : Prop := deriveBeginsRow.holds Tryd.pinned (OpenSpec.ofChange deriveBeginsSpec)

/-- ITS FALSE NEIGHBOUR: 'it returns false'. Refute it at one input. -/
def deriveBeginsWrong : ChangeSpec := { name := "deriveBegins", fn := fun _ => fun
  | [d1, d2, d3] => { results := [.lit (.bool false)], args := [d1, d2, d3] }
  | _ => none }
def DeriveBeginsWrongFalsely : Prop := deriveBeginsRow.holds Tryd.pinned (OpenSpec.ofChange deriveBeginsWrong)

/-- 'traveldoclaw07.DeriveKeys': WHATEVER THE INPUT: true; the input reads as it did. -/
def deriveKeysSpec : ChangeSpec := { name := "deriveKeys", fn := fun _ => fun
  | [d1, d2] => { results := [.lit (.bool true)], args := [d1, d2] }
  | _ => none }
def deriveKeysRow : OpenClaim := { program := "yteihfboomegpkaadoor", sum := "7de2a2580983b673b7fc53aa6428ebb29b27cf8f24ad86ae715d06d9184de78b", func := "traveldoc/traveldoclaw07.DeriveKeys", spec := "deriveKeys", unfollowed := true, recurses := true, named := ["traveldoc/digest.constants", "traveldoc/traveldocref04.constants"], apart := false, laid := [("traveldoc/traveldocref04.constants", laid_traveldoc_traveldocref04_constants), ("traveldoc/digest.constants", laid_traveldoc_digest_constants)] }
def DeriveKeysSaid : Prop := deriveKeysRow.holds Tryd.pinned (OpenSpec.ofChange deriveKeysSpec)

/-- ITS FALSE NEIGHBOUR: 'it returns false'. Refute it at one input. -/
def deriveKeysWrong : ChangeSpec := { name := "deriveKeys", fn := fun _ => fun
  | [d1, d2] => { results := [.lit (.bool false)], args := [d1, d2] }
  | _ => none }
def DeriveKeysWrongFalsely : Prop := deriveKeysRow.holds Tryd.pinned (OpenSpec.ofChange deriveKeysWrong)

/-- 'traveldoclaw07.DeriveSecrets': WHATEVER THE INPUT: true; the input reads as it did. -/
def deriveSecretsSpec : ChangeSpec := { name := "deriveSecrets", fn := fun _ => fun
  | [d] => { results := [.lit (.bool true)], args := [d] }
  | _ => none }
def deriveSecretsRow : OpenClaim := { program := "yteihfboomegpkaadoor", sum := "7de2a2580983b673b7fc53aa6428ebb29b27cf8f24ad86ae715d06d9184de78b", func := "traveldoc/traveldoclaw07.DeriveSecrets", spec := "deriveSecrets", unfollowed := true, recurses := true, named := ["traveldoc/digest.constants", "traveldoc/traveldocref04.constants"], apart := false, laid := [("traveldoc/traveldocref04.constants", laid_traveldoc_traveldocref04_constants), ("traveldoc/digest.constants", laid_traveldoc_digest_constants)] }
def DeriveSecretsSaid : Prop := deriveSecretsRow.holds Tryd.pinned (OpenSpec.ofChange deriveSecretsSpec)

/-- ITS FALSE NEIGHBOUR: 'it returns false'. Refute it at one input. -/
def deriveSecretsWrong : ChangeSpec := { name := "deriveSecrets", fn := fun _ => fun
  | [d] => { results := [.lit (.bool false)], args := [d] }
  | _ => none }
def DeriveSecretsWrongFalsely : Prop := deriveSecretsRow.holds Tryd.pinned (OpenSpec.ofChange deriveSecretsWrong)

/-- 'traveldoclaw09.SignSigns': WHATEVER THE INPUT: true; the input reads as it did. -/
def signSignsSpec : ChangeSpec := { name := "signSigns", fn := fun _ => fun
  | [d1, d2] => { results := [.lit (.bool true)], args := [d1, d2] }
  | _ => none }
def signSignsRow : OpenClaim := { program := "yteihfboomegpkaadoor", sum := "7de2a2580983b673b7fc53aa6428ebb29b27cf8f24ad86ae715d06d9184de78b", func := "traveldoc/traveldoclaw09.SignSigns", spec := "signSigns", unfollowed := true, recurses := true, named := ["traveldoc/digest.constants", "traveldoc/traveldocref04.constants"], apart := false, laid := [("traveldoc/traveldocref04.constants", laid_traveldoc_traveldocref04_constants), ("traveldoc/digest.constants", laid_traveldoc_digest_constants)] }
def SignSignsSaid : Prop := signSignsRow.holds Tryd.pinned (OpenSpec.ofChange signSignsSpec)

/-- ITS FALSE NEIGHBOUR: 'it returns false'. Refute it at one input. -/
def signSignsWrong : ChangeSpec := { name := "signSigns", fn := fun _ => fun
  | [d1, d2] => { results := [.lit (.bool false)], args := [d1, d2] }
  | _ => none }
def SignSignsWrongFalsely : Prop := signSignsRow.holds Tryd.pinned (OpenSpec.ofChange signSignsWrong)

/-- 'traveldoclaw09.SignVerifies': WHATEVER THE INPUT: true; the input reads as it did. -/
def signVerifiesSpec : ChangeSpec := { name := "signVerifies", fn := fun _ => fun
  | [d1, d2, d3] => { results := [.lit (.bool true)], args := [d1, d2, d3] }
  | _ => none }
def signVerifiesRow : OpenClaim := { program := "yteihfboomegpkaadoor", sum := "7de2a2580983b673b7fc53aa6428ebb29b27cf8f24ad86ae715d06d9184de78b", func := "traveldoc/traveldoclaw09.SignVerifies", spec := "signVerifies", unfollowed := true, recurses := true, named := ["traveldoc/digest.constants", "traveldoc/traveldocref04.constants"], apart := false, laid := [("traveldoc/traveldocref04.constants", laid_traveldoc_traveldocref04_constants), ("traveldoc/digest.constants", laid_traveldoc_digest_constants)] }
def SignVerifiesSaid : Prop := signVerifiesRow.holds Tryd.pinned (OpenSpec.ofChange signVerifiesSpec)

/-- ITS FALSE NEIGHBOUR: 'it returns false'. Refute it at one input. -/
def signVerifiesWrong : ChangeSpec := { name := "signVerifies", fn := fun _ => fun
  | [d1, d2, d3] => { results := [.lit (.bool false)], args := [d1, d2, d3] }
  | _ => none }
def SignVerifiesWrongFalsely : Prop := signVerifiesRow.holds Tryd.pinned (OpenSpec.ofChange signVerifiesWrong)

/-- 'traveldoclaw09.SignVerifiesMade': WHATEVER THE INPUT: true; the input reads as it did. -/
def signVerifiesMadeSpec : ChangeSpec := { name := "signVerifiesMade", fn := fun _ => fun
  | [d1, d2, d3] => { results := [.lit (.bool true)], args := [d1, d2, d3] }
  | _ => none }
def signVerifiesMadeRow : OpenClaim := { program := "yteihfboomegpkaadoor", sum := "7de2a2580983b673b7fc53aa6428ebb29b27cf8f24ad86ae715d06d9184de78b", func := "traveldoc/traveldoclaw09.SignVerifiesMade", spec := "signVerifiesMade", unfollowed := true, recurses := true, named := ["traveldoc/digest.constants", "traveldoc/traveldocref04.constants"], apart := false, laid := [("traveldoc/traveldocref04.constants", laid_traveldoc_traveldocref04_constants), ("traveldoc/digest.constants", laid_traveldoc_digest_constants)] }
def SignVerifiesMadeSaid : Prop := signVerifiesMadeRow.holds Tryd.pinned (OpenSpec.ofChange signVerifiesMadeSpec)

/-- ITS FALSE NEIGHBOUR: 'it returns false'. Refute it at one input. -/
def signVerifiesMadeWrong : ChangeSpec := { name := "signVerifiesMade", fn := fun _ => fun
  | [d1, d2, d3] => { results := [.lit (.bool false)], args := [d1, d2, d3] }
  | _ => none }
def SignVerifiesMadeWrongFalsely : Prop := signVerifiesMadeRow.holds Tryd.pinned (OpenSpec.ofChange signVerifiesMadeWrong)

/-- 'traveldoclaw09.SignRefuses': WHATEVER THE INPUT: true; the input reads as it did. -/
def signRefusesSpec : ChangeSpec := { name := "signRefuses", fn := fun _ => fun
  | [d1, d2] => { results := [.lit (.bool true)], args := [d1, d2] }
  | _ => none }
def signRefusesRow : OpenClaim := { program := "yteihfboomegpkaadoor", sum := "7de2a2580983b673b7fc53aa6428ebb29b27cf8f24ad86ae715d06d9184de78b", func := "traveldoc/traveldoclaw09.SignRefuses", spec := "signRefuses", unfollowed := true, recurses := true, named := ["traveldoc/digest.constants"], apart := false, laid := [("traveldoc/digest.constants", laid_traveldoc_digest_constants)] }
def SignRefusesSaid : Prop := signRefusesRow.holds Tryd.pinned (OpenSpec.ofChange signRefusesSpec)

/-- ITS FALSE NEIGHBOUR: 'it returns false'. Refute it at one input. -/
def signRefusesWrong : ChangeSpec := { name := "signRefuses", fn := fun _ => fun
  | [d1, d2] => { results := [.lit (.bool false)], args := [d1, d2] }
  | _ => none }
def SignRefusesWrongFalsely : Prop := signRefusesRow.holds Tryd.pinned (OpenSpec.ofChange signRefusesWrong)

/-- 'traveldoclaw09.SignWrites': WHATEVER THE INPUT: true; the input reads as it did. -/
def signWritesSpec : ChangeSpec := { name := "signWrites", fn := fun _ => fun
  | [d1, d2, d3] => { results := [.lit (.bool true)], args := [d1, d2, d3] }
  | _ => none }
def signWritesRow : OpenClaim := { program := "yteihfboomegpkaadoor", sum := "7de2a2580983b673b7fc53aa6428ebb29b27cf8f24ad86ae715d06d9184de78b", func := "traveldoc/traveldoclaw09.SignWrites", spec := "signWrites", unfollowed := true, recurses := true, named := ["traveldoc/digest.constants"], apart := false, laid := [("traveldoc/digest.constants", laid_traveldoc_digest_constants)] }
def SignWritesSaid : Prop := signWritesRow.holds Tryd.pinned (OpenSpec.ofChange signWritesSpec)

/-- ITS FALSE NEIGHBOUR: 'it returns false'. Refute it at one input. -/
def signWritesWrong : ChangeSpec := { name := "signWrites", fn := fun _ => fun
  | [d1, d2, d3] => { results := [.lit (.bool false)], args := [d1, d2, d3] }
  | _ => none }
def SignWritesWrongFalsely : Prop := signWritesRow.holds Tryd.pinned (OpenSpec.ofChange signWritesWrong)

/-- 'traveldoclaw27.TerminalauthMessages': WHATEVER THE INPUT: true; the input reads as it did. -/
def terminalauthMessagesSpec : ChangeSpec := { name := "terminalauthMessages", fn := fun _ => fun
  | [d1, d2, d3] => { results := [.lit (.bool true)], args := [d1, d2, d3] }
  | _ => none }
def terminalauthMessagesRow : OpenClaim := { program := "yteihfboomegpkaadoor", sum := "7de2a2580983b673b7fc53aa6428ebb29b27cf8f24ad86ae715d06d9184de78b", func := "traveldoc/traveldoclaw27.TerminalauthMessages", spec := "terminalauthMessages", unfollowed := true, recurses := true, named := ["traveldoc/digest.constants"], apart := false, laid := [("traveldoc/digest.constants", laid_traveldoc_digest_constants)] }
def TerminalauthMessagesSaid : Prop := terminalauthMessagesRow.holds Tryd.pinned (OpenSpec.ofChange terminalauthMessagesSpec)

/-- ITS FALSE NEIGHBOUR: 'it returns false'. Refute it at one input. -/
def terminalauthMessagesWrong : ChangeSpec := { name := "terminalauthMessages", fn := fun _ => fun
  | [d1, d2, d3] => { results := [.lit (.bool false)], args := [d1, d2, d3] }
  | _ => none }
def TerminalauthMessagesWrongFalsely : Prop := terminalauthMessagesRow.holds Tryd.pinned (OpenSpec.ofChange terminalauthMessagesWrong)

/-- 'traveldoclaw27.TerminalauthProves': WHATEVER THE INPUT: true; the input reads as it did. -/
def terminalauthProvesSpec : ChangeSpec := { name := "terminalauthProves", fn := fun _ => fun
  | [d1, d2, d3, d4] => { results := [.lit (.bool true)], args := [d1, d2, d3, d4] }
  | _ => none }
def terminalauthProvesRow : OpenClaim := { program := "yteihfboomegpkaadoor", sum := "7de2a2580983b673b7fc53aa6428ebb29b27cf8f24ad86ae715d06d9184de78b", func := "traveldoc/traveldoclaw27.TerminalauthProves", spec := "terminalauthProves", unfollowed := true, recurses := true, named := ["traveldoc/digest.constants", "traveldoc/traveldocref04.constants"], apart := false, laid := [("traveldoc/traveldocref04.constants", laid_traveldoc_traveldocref04_constants), ("traveldoc/digest.constants", laid_traveldoc_digest_constants)] }
def TerminalauthProvesSaid : Prop := terminalauthProvesRow.holds Tryd.pinned (OpenSpec.ofChange terminalauthProvesSpec)

/-- ITS FALSE NEIGHBOUR: 'it returns false'. Refute it at one input. -/
def terminalauthProvesWrong : ChangeSpec := { name := "terminalauthProves", fn := fun _ => fun
  | [d1, d2, d3, d4] => { results := [.lit (.bool false)], args := [d1, d2, d3, d4] }
  | _ => none }
def TerminalauthProvesWrongFalsely : Prop := terminalauthProvesRow.holds Tryd.pinned (OpenSpec.ofChange terminalauthProvesWrong)

/-- 'traveldoclaw27.TerminalauthAccepts': WHATEVER THE INPUT: true; the input reads as it did. -/
def terminalauthAcceptsSpec : ChangeSpec := { name := "terminalauthAccepts", fn := fun _ => fun
  | [d1, d2, d3, d4, d5] => { results := [.lit (.bool true)], args := [d1, d2, d3, d4, d5] }
  | _ => none }
def terminalauthAcceptsRow : OpenClaim := { program := "yteihfboomegpkaadoor", sum := "7de2a2580983b673b7fc53aa6428ebb29b27cf8f24ad86ae715d06d9184de78b", func := "traveldoc/traveldoclaw27.TerminalauthAccepts", spec := "terminalauthAccepts", unfollowed := true, recurses := true, named := ["traveldoc/digest.constants", "traveldoc/traveldocref04.constants"], apart := false, laid := [("traveldoc/traveldocref04.constants", laid_traveldoc_traveldocref04_constants), ("traveldoc/digest.constants", laid_traveldoc_digest_constants)] }
def TerminalauthAcceptsSaid : Prop := terminalauthAcceptsRow.holds Tryd.pinned (OpenSpec.ofChange terminalauthAcceptsSpec)

/-- ITS FALSE NEIGHBOUR: 'it returns false'. Refute it at one input. -/
def terminalauthAcceptsWrong : ChangeSpec := { name := "terminalauthAccepts", fn := fun _ => fun
  | [d1, d2, d3, d4, d5] => { results := [.lit (.bool false)], args := [d1, d2, d3, d4, d5] }
  | _ => none }
def TerminalauthAcceptsWrongFalsely : Prop := terminalauthAcceptsRow.holds Tryd.pinned (OpenSpec.ofChange terminalauthAcceptsWrong)

/-- 'traveldoclaw27.TerminalauthRound': WHATEVER THE INPUT: true; the input reads as it did. -/
def terminalauthRoundSpec : ChangeSpec := { name := "terminalauthRound", fn := fun _ => fun
  | [d1, d2, d3, d4, d5, d6, d7] => { results := [.lit (.bool true)], args := [d1, d2, d3, d4, d5, d6, d7] }
  | _ => none }
def terminalauthRoundRow : OpenClaim := { program := "yteihfboomegpkaadoor", sum := "7de2a2580983b673b7fc53aa6428ebb29b27cf8f24ad86ae715d06d9184de78b", func := "traveldoc/traveldoclaw27.TerminalauthRound", spec := "terminalauthRound", unfollowed := true, recurses := true, named := ["traveldoc/digest.constants", "traveldoc/traveldocref04.constants"], apart := false, laid := [("traveldoc/traveldocref04.constants", laid_traveldoc_traveldocref04_constants), ("traveldoc/digest.constants", laid_traveldoc_digest_constants)] }
def TerminalauthRoundSaid : Prop := terminalauthRoundRow.holds Tryd.pinned (OpenSpec.ofChange terminalauthRoundSpec)

/-- ITS FALSE NEIGHBOUR: 'it returns false'. Refute it at one input. -/
def terminalauthRoundWrong : ChangeSpec := { name := "terminalauthRound", fn := fun _ => fun
  | [d1, d2, d3, d4, d5, d6, d7] => { results := [.lit (.bool false)], args := [d1, d2, d3, d4, d5, d6, d7] }
  | _ => none }
def TerminalauthRoundWrongFalsely : Prop := terminalauthRoundRow.holds Tryd.pinned (OpenSpec.ofChange terminalauthRoundWrong)

/- THE SECOND FORM. 'bulk': how many values and letters a reading holds, each counted each time it is reached (what is shared counts as often as it is met; a slice's spare places count too). A statement '..UptoSaid' is the law's where the arguments, and the package variables that the reading takes, are together of bulk at most 1048576: NARROWER than '..Said'. Prove '..Said' where nothing that the law and all that it calls make is longer than what came in: it says more and counts as full. Else prove '..UptoSaid'. A law counts once. -/
mutual
def uptoBulk {H : Type} : DataW H → Nat
  | .lit (.string bytes) => bytes.length + 1
  | .lit _ => 1
  | .nil => 1
  | .ptr d => uptoBulk d + 1
  | .slice elems spare => uptoBulkAll elems + uptoBulkAll spare + 1
  | .agg parts => uptoBulkAll parts + 1
  | .iface _ d => uptoBulk d + 1
  | .map entries => uptoBulkEntries entries + 1
  | .held _ => 1
def uptoBulkAll {H : Type} : List (DataW H) → Nat
  | [] => 0
  | d :: r => uptoBulk d + uptoBulkAll r
def uptoBulkEntries {H : Type} : List (Lit × DataW H) → Nat
  | [] => 0
  | x :: r => uptoBulkEntry x + uptoBulkEntries r
def uptoBulkEntry {H : Type} : Lit × DataW H → Nat
  | (.string bytes, d) => bytes.length + uptoBulk d + 1
  | (_, d) => uptoBulk d + 1
 end
def uptoSmall : (H : Type) → List (DataW H) → Bool := fun _ ds => decide (uptoBulkAll ds ≤ 1048576)
def OpenSpec.upto (s : _root_.Go.ChangeSpec) : _root_.Go.OpenSpec := { _root_.Go.OpenSpec.ofChange s with cond := some uptoSmall }

/-- 'traveldoclaw04.DigestPads', WHERE WHAT IT READS IS OF BULK AT MOST 1048576: true; the input reads as it did. -/
def digestPadsUptoRow : OpenClaim := { program := "yteihfboomegpkaadoor", sum := "7de2a2580983b673b7fc53aa6428ebb29b27cf8f24ad86ae715d06d9184de78b", func := "traveldoc/traveldoclaw04.DigestPads", spec := "digestPads", unfollowed := true, recurses := true, named := ["traveldoc/digest.constants"], apart := false, laid := [("traveldoc/digest.constants", laid_traveldoc_digest_constants)], narrowed := true }
def DigestPadsUptoSaid : Prop := digestPadsUptoRow.holds Tryd.pinned (OpenSpec.upto digestPadsSpec)

/-- 'traveldoclaw04.DigestCompresses', WHERE WHAT IT READS IS OF BULK AT MOST 1048576: true; the input reads as it did. -/
def digestCompressesUptoRow : OpenClaim := { program := "yteihfboomegpkaadoor", sum := "7de2a2580983b673b7fc53aa6428ebb29b27cf8f24ad86ae715d06d9184de78b", func := "traveldoc/traveldoclaw04.DigestCompresses", spec := "digestCompresses", unfollowed := true, recurses := true, named := ["traveldoc/digest.constants", "traveldoc/traveldocref04.constants"], apart := false, laid := [("traveldoc/traveldocref04.constants", laid_traveldoc_traveldocref04_constants), ("traveldoc/digest.constants", laid_traveldoc_digest_constants)], narrowed := true }
def DigestCompressesUptoSaid : Prop := digestCompressesUptoRow.holds Tryd.pinned (OpenSpec.upto digestCompressesSpec)

/-- 'traveldoclaw04.DigestSums', WHERE WHAT IT READS IS OF BULK AT MOST 1048576: true; the input reads as it did. -/
def digestSumsUptoRow : OpenClaim := { program := "yteihfboomegpkaadoor", sum := "7de2a2580983b673b7fc53aa6428ebb29b27cf8f24ad86ae715d06d9184de78b", func := "traveldoc/traveldoclaw04.DigestSums", spec := "digestSums", unfollowed := true, recurses := true, named := ["traveldoc/digest.constants", "traveldoc/traveldocref04.constants"], apart := false, laid := [("traveldoc/traveldocref04.constants", laid_traveldoc_traveldocref04_constants), ("traveldoc/digest.constants", laid_traveldoc_digest_constants)], narrowed := true }
def DigestSumsUptoSaid : Prop := digestSumsUptoRow.holds Tryd.pinned (OpenSpec.upto digestSumsSpec)

/-- 'traveldoclaw04.DigestGoesOn', WHERE WHAT IT READS IS OF BULK AT MOST 1048576: true; the input reads as it did. -/
def digestGoesOnUptoRow : OpenClaim := { program := "yteihfboomegpkaadoor", sum := "7de2a2580983b673b7fc53aa6428ebb29b27cf8f24ad86ae715d06d9184de78b", func := "traveldoc/traveldoclaw04.DigestGoesOn", spec := "digestGoesOn", unfollowed := true, recurses := true, named := ["traveldoc/digest.constants"], apart := false, laid := [("traveldoc/digest.constants", laid_traveldoc_digest_constants)], narrowed := true }
def DigestGoesOnUptoSaid : Prop := digestGoesOnUptoRow.holds Tryd.pinned (OpenSpec.upto digestGoesOnSpec)

/-- 'traveldoclaw04.DigestStandard', WHERE WHAT IT READS IS OF BULK AT MOST 1048576: true; the input reads as it did. -/
def digestStandardUptoRow : OpenClaim := { program := "yteihfboomegpkaadoor", sum := "7de2a2580983b673b7fc53aa6428ebb29b27cf8f24ad86ae715d06d9184de78b", func := "traveldoc/traveldoclaw04.DigestStandard", spec := "digestStandard", unfollowed := true, recurses := true, named := ["traveldoc/digest.constants"], apart := false, laid := [("traveldoc/digest.constants", laid_traveldoc_digest_constants)], narrowed := true }
def DigestStandardUptoSaid : Prop := digestStandardUptoRow.holds Tryd.pinned (OpenSpec.upto digestStandardSpec)

/-- 'traveldoclaw07.DeriveDraws', WHERE WHAT IT READS IS OF BULK AT MOST 1048576: true; the input reads as it did. -/
def deriveDrawsUptoRow : OpenClaim := { program := "yteihfboomegpkaadoor", sum := "7de2a2580983b673b7fc53aa6428ebb29b27cf8f24ad86ae715d06d9184de78b", func := "traveldoc/traveldoclaw07.DeriveDraws", spec := "deriveDraws", unfollowed := true, recurses := true, named := ["traveldoc/digest.constants", "traveldoc/traveldocref04.constants"], apart := false, laid := [("traveldoc/traveldocref04.constants", laid_traveldoc_traveldocref04_constants), ("traveldoc/digest.constants", laid_traveldoc_digest_constants)], narrowed := true }
def DeriveDrawsUptoSaid : Prop := deriveDrawsUptoRow.holds Tryd.pinned (OpenSpec.upto deriveDrawsSpec)

/-- 'traveldoclaw07.DeriveBegins', WHERE WHAT IT READS IS OF BULK AT MOST 1048576: true; the input reads as it did. -/
def deriveBeginsUptoRow : OpenClaim := { program := "yteihfboomegpkaadoor", sum := "7de2a2580983b673b7fc53aa6428ebb29b27cf8f24ad86ae715d06d9184de78b", func := "traveldoc/traveldoclaw07.DeriveBegins", spec := "deriveBegins", unfollowed := true, recurses := true, named := ["traveldoc/digest.constants"], apart := false, laid := [("traveldoc/digest.constants", laid_traveldoc_digest_constants)], narrowed := true }
def DeriveBeginsUptoSaid : Prop := deriveBeginsUptoRow.holds Tryd.pinned (OpenSpec.upto deriveBeginsSpec)

/-- 'traveldoclaw07.DeriveKeys', WHERE WHAT IT READS IS OF BULK AT MOST 1048576: true; the input reads as it did. -/
def deriveKeysUptoRow : OpenClaim := { program := "yteihfboomegpkaadoor", sum := "7de2a2580983b673b7fc53aa6428ebb29b27cf8f24ad86ae715d06d9184de78b", func := "traveldoc/traveldoclaw07.DeriveKeys", spec := "deriveKeys", unfollowed := true, recurses := true, named := ["traveldoc/digest.constants", "traveldoc/traveldocref04.constants"], apart := false, laid := [("traveldoc/traveldocref04.constants", laid_traveldoc_traveldocref04_constants), ("traveldoc/digest.constants", laid_traveldoc_digest_constants)], narrowed := true }
def DeriveKeysUptoSaid : Prop := deriveKeysUptoRow.holds Tryd.pinned (OpenSpec.upto deriveKeysSpec)

/-- 'traveldoclaw07.DeriveSecrets', WHERE WHAT IT READS IS OF BULK AT MOST 1048576: true; the input reads as it did. -/
def deriveSecretsUptoRow : OpenClaim := { program := "yteihfboomegpkaadoor", sum := "7de2a2580983b673b7fc53aa6428ebb29b27cf8f24ad86ae715d06d9184de78b", func := "traveldoc/traveldoclaw07.DeriveSecrets", spec := "deriveSecrets", unfollowed := true, recurses := true, named := ["traveldoc/digest.constants", "traveldoc/traveldocref04.constants"], apart := false, laid := [("traveldoc/traveldocref04.constants", laid_traveldoc_traveldocref04_constants), ("traveldoc/digest.constants", laid_traveldoc_digest_constants)], narrowed := true }
def DeriveSecretsUptoSaid : Prop := deriveSecretsUptoRow.holds Tryd.pinned (OpenSpec.upto deriveSecretsSpec)

/-- 'traveldoclaw09.SignSigns', WHERE WHAT IT READS IS OF BULK AT MOST 1048576: true; the input reads as it did. -/
def signSignsUptoRow : OpenClaim := { program := "yteihfboomegpkaadoor", sum := "7de2a2580983b673b7fc53aa6428ebb29b27cf8f24ad86ae715d06d9184de78b", func := "traveldoc/traveldoclaw09.SignSigns", spec := "signSigns", unfollowed := true, recurses := true, named := ["traveldoc/digest.constants", "traveldoc/traveldocref04.constants"], apart := false, laid := [("traveldoc/traveldocref04.constants", laid_traveldoc_traveldocref04_constants), ("traveldoc/digest.constants", laid_traveldoc_digest_constants)], narrowed := true }
def SignSignsUptoSaid : Prop := signSignsUptoRow.holds Tryd.pinned (OpenSpec.upto signSignsSpec)

/-- 'traveldoclaw09.SignVerifies', WHERE WHAT IT READS IS OF BULK AT MOST 1048576: true; the input reads as it did. -/
def signVerifiesUptoRow : OpenClaim := { program := "yteihfboomegpkaadoor", sum := "7de2a2580983b673b7fc53aa6428ebb29b27cf8f24ad86ae715d06d9184de78b", func := "traveldoc/traveldoclaw09.SignVerifies", spec := "signVerifies", unfollowed := true, recurses := true, named := ["traveldoc/digest.constants", "traveldoc/traveldocref04.constants"], apart := false, laid := [("traveldoc/traveldocref04.constants", laid_traveldoc_traveldocref04_constants), ("traveldoc/digest.constants", laid_traveldoc_digest_constants)], narrowed := true }
def SignVerifiesUptoSaid : Prop := signVerifiesUptoRow.holds Tryd.pinned (OpenSpec.upto signVerifiesSpec)

/-- 'traveldoclaw09.SignVerifiesMade', WHERE WHAT IT READS IS OF BULK AT MOST 1048576: true; the input reads as it did. -/
def signVerifiesMadeUptoRow : OpenClaim := { program := "yteihfboomegpkaadoor", sum := "7de2a2580983b673b7fc53aa6428ebb29b27cf8f24ad86ae715d06d9184de78b", func := "traveldoc/traveldoclaw09.SignVerifiesMade", spec := "signVerifiesMade", unfollowed := true, recurses := true, named := ["traveldoc/digest.constants", "traveldoc/traveldocref04.constants"], apart := false, laid := [("traveldoc/traveldocref04.constants", laid_traveldoc_traveldocref04_constants), ("traveldoc/digest.constants", laid_traveldoc_digest_constants)], narrowed := true }
def SignVerifiesMadeUptoSaid : Prop := signVerifiesMadeUptoRow.holds Tryd.pinned (OpenSpec.upto signVerifiesMadeSpec)

/-- 'traveldoclaw09.SignRefuses', WHERE WHAT IT READS IS OF BULK AT MOST 1048576: true; the input reads as it did. -/
def signRefusesUptoRow : OpenClaim := { program := "yteihfboomegpkaadoor", sum := "7de2a2580983b673b7fc53aa6428ebb29b27cf8f24ad86ae715d06d9184de78b", func := "traveldoc/traveldoclaw09.SignRefuses", spec := "signRefuses", unfollowed := true, recurses := true, named := ["traveldoc/digest.constants"], apart := false, laid := [("traveldoc/digest.constants", laid_traveldoc_digest_constants)], narrowed := true }
def SignRefusesUptoSaid : Prop := signRefusesUptoRow.holds Tryd.pinned (OpenSpec.upto signRefusesSpec)

/-- 'traveldoclaw09.SignWrites', WHERE WHAT IT READS IS OF BULK AT MOST 1048576: true; the input reads as it did. -/
def signWritesUptoRow : OpenClaim := { program := "yteihfboomegpkaadoor", sum := "7de2a2580983b673b7fc53aa6428ebb29b27cf8f24ad86ae715d06d9184de78b", func := "traveldoc/traveldoclaw09.SignWrites", spec := "signWrites", unfollowed := true, recurses := true, named := ["traveldoc/digest.constants"], apart := false, laid := [("traveldoc/digest.constants", laid_traveldoc_digest_constants)], narrowed := true }
def SignWritesUptoSaid : Prop := signWritesUptoRow.holds Tryd.pinned (OpenSpec.upto signWritesSpec)

/-- 'traveldoclaw27.TerminalauthMessages', WHERE WHAT IT READS IS OF BULK AT MOST 1048576: true; the input reads as it did. -/
def terminalauthMessagesUptoRow : OpenClaim := { program := "yteihfboomegpkaadoor", sum := "7de2a2580983b673b7fc53aa6428ebb29b27cf8f24ad86ae715d06d9184de78b", func := "traveldoc/traveldoclaw27.TerminalauthMessages", spec := "terminalauthMessages", unfollowed := true, recurses := true, named := ["traveldoc/digest.constants"], apart := false, laid := [("traveldoc/digest.constants", laid_traveldoc_digest_constants)], narrowed := true }
def TerminalauthMessagesUptoSaid : Prop := terminalauthMessagesUptoRow.holds Tryd.pinned (OpenSpec.upto terminalauthMessagesSpec)

/-- 'traveldoclaw27.TerminalauthProves', WHERE WHAT IT READS IS OF BULK AT MOST 1048576: true; the input reads as it did. -/
def terminalauthProvesUptoRow : OpenClaim := { program := "yteihfboomegpkaadoor", sum := "7de2a2580983b673b7fc53aa6428ebb29b27cf8f24ad86ae715d06d9184de78b", func := "traveldoc/traveldoclaw27.TerminalauthProves", spec := "terminalauthProves", unfollowed := true, recurses := true, named := ["traveldoc/digest.constants", "traveldoc/traveldocref04.constants"], apart := false, laid := [("traveldoc/traveldocref04.constants", laid_traveldoc_traveldocref04_constants), ("traveldoc/digest.constants", laid_traveldoc_digest_constants)], narrowed := true }
def TerminalauthProvesUptoSaid : Prop := terminalauthProvesUptoRow.holds Tryd.pinned (OpenSpec.upto terminalauthProvesSpec)

/-- 'traveldoclaw27.TerminalauthAccepts', WHERE WHAT IT READS IS OF BULK AT MOST 1048576: true; the input reads as it did. -/
def terminalauthAcceptsUptoRow : OpenClaim := { program := "yteihfboomegpkaadoor", sum := "7de2a2580983b673b7fc53aa6428ebb29b27cf8f24ad86ae715d06d9184de78b", func := "traveldoc/traveldoclaw27.TerminalauthAccepts", spec := "terminalauthAccepts", unfollowed := true, recurses := true, named := ["traveldoc/digest.constants", "traveldoc/traveldocref04.constants"], apart := false, laid := [("traveldoc/traveldocref04.constants", laid_traveldoc_traveldocref04_constants), ("traveldoc/digest.constants", laid_traveldoc_digest_constants)], narrowed := true }
def TerminalauthAcceptsUptoSaid : Prop := terminalauthAcceptsUptoRow.holds Tryd.pinned (OpenSpec.upto terminalauthAcceptsSpec)

/-- 'traveldoclaw27.TerminalauthRound', WHERE WHAT IT READS IS OF BULK AT MOST 1048576: true; the input reads as it did. -/
def terminalauthRoundUptoRow : OpenClaim := { program := "yteihfboomegpkaadoor", sum := "7de2a2580983b673b7fc53aa6428ebb29b27cf8f24ad86ae715d06d9184de78b", func := "traveldoc/traveldoclaw27.TerminalauthRound", spec := "terminalauthRound", unfollowed := true, recurses := true, named := ["traveldoc/digest.constants", "traveldoc/traveldocref04.constants"], apart := false, laid := [("traveldoc/traveldocref04.constants", laid_traveldoc_traveldocref04_constants), ("traveldoc/digest.constants", laid_traveldoc_digest_constants)], narrowed := true }
def TerminalauthRoundUptoSaid : Prop := terminalauthRoundUptoRow.holds Tryd.pinned (OpenSpec.upto terminalauthRoundSpec)

end Rows
end Go.Proofs.YteihfboomegpkaaDoor
