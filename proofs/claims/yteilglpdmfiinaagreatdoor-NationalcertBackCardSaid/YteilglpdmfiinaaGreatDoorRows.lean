/-
  NARROWER THAN 'FOR EVERY INPUT', by the rows' own cells (each row's printed sentence says how): TerminalcertDecodes: laid · TerminalcertIssues: laid · TerminalcertBack: laid · TerminalchainStarts: laid · TerminalchainImports: laid · TerminalchainPaths: laid · TerminalchainRights: laid · NationalcertDecodes: laid · NationalcertIssues: laid · NationalcertBack: laid · NationalchainProves: laid · NationalchainMade: laid · NationalchainGrows: laid.
  DERIVED. THE GIVEN ROWS OF THIS SEAT. 13 by the template 'for every input the law returns true; each argument reads behind the call as it read before'; 0 by the template 'total and deterministic' (their statements: YteilglpdmfiinaaGreatDoorTotals.lean).
  GIVEN WITH THE SEED: the statements are not yours to turn. If you find one false, say at which input.
  Laid BY PROGRAM, IN A SANDBOX (cutbox-rows.mjs): the forced cells as the released guide's own fill.sh prints them over the translation 1cb33f24e5d560bc… (all of the seat's roots in one cut). By AI agents, Wed Nov 11 2026. No macro, syntax, notation, axiom, sorry.
-/
import Derived.Test.YteilglpdmfiinaaGreatDoorChecked
import GoSem.Claim
import GoSem.ClaimJoined
import GoSem.ClaimMapViews
import Derived.JoinedTies
import Derived.KernelRfl
namespace Go.Proofs.YteilglpdmfiinaaGreatDoor
/- THE CELL 'sum', in the pinned program and in every row, IS THE sha256 OF THE DUMP (.gsa) THAT YteilglpdmfiinaaGreatDoorProg.lean LOADS. Nothing in Lean hashes anything: it is a label: what it is worth is what the hold of that sum in a sandbox is worth. -/
noncomputable def Tryz.pinned : Pinned := { name := "yteilglpdmfiinaagreatdoor", sum := "1cb33f24e5d560bc107c9e33adcb0d0b1ae453be92030fea42482f54ff6514d3", checked := Tryz.checked }
namespace Rows
def none {H : Type} : Left H := { results := [], args := [] }

/- WHAT THE LISTED PACKAGE-LEVEL VARIABLES READ AS WHEN THE CALL BEGINS. Each datum BY PROGRAM (the guide's laid-datum.mjs) off the statement by which the dump's own 'gosem.cut.vars' lays the variable. In a bare row this is a premise. The card (YteilglpdmfiinaaGreatDoorCards.lean) ties it to the program's text. -/
def laid_traveldoc_digest_constants {H : Type} : DataW H := .agg [.lit (.int .u32 1116352408), .lit (.int .u32 1899447441), .lit (.int .u32 3049323471), .lit (.int .u32 3921009573), .lit (.int .u32 961987163), .lit (.int .u32 1508970993), .lit (.int .u32 2453635748), .lit (.int .u32 2870763221), .lit (.int .u32 3624381080), .lit (.int .u32 310598401), .lit (.int .u32 607225278), .lit (.int .u32 1426881987), .lit (.int .u32 1925078388), .lit (.int .u32 2162078206), .lit (.int .u32 2614888103), .lit (.int .u32 3248222580), .lit (.int .u32 3835390401), .lit (.int .u32 4022224774), .lit (.int .u32 264347078), .lit (.int .u32 604807628), .lit (.int .u32 770255983), .lit (.int .u32 1249150122), .lit (.int .u32 1555081692), .lit (.int .u32 1996064986), .lit (.int .u32 2554220882), .lit (.int .u32 2821834349), .lit (.int .u32 2952996808), .lit (.int .u32 3210313671), .lit (.int .u32 3336571891), .lit (.int .u32 3584528711), .lit (.int .u32 113926993), .lit (.int .u32 338241895), .lit (.int .u32 666307205), .lit (.int .u32 773529912), .lit (.int .u32 1294757372), .lit (.int .u32 1396182291), .lit (.int .u32 1695183700), .lit (.int .u32 1986661051), .lit (.int .u32 2177026350), .lit (.int .u32 2456956037), .lit (.int .u32 2730485921), .lit (.int .u32 2820302411), .lit (.int .u32 3259730800), .lit (.int .u32 3345764771), .lit (.int .u32 3516065817), .lit (.int .u32 3600352804), .lit (.int .u32 4094571909), .lit (.int .u32 275423344), .lit (.int .u32 430227734), .lit (.int .u32 506948616), .lit (.int .u32 659060556), .lit (.int .u32 883997877), .lit (.int .u32 958139571), .lit (.int .u32 1322822218), .lit (.int .u32 1537002063), .lit (.int .u32 1747873779), .lit (.int .u32 1955562222), .lit (.int .u32 2024104815), .lit (.int .u32 2227730452), .lit (.int .u32 2361852424), .lit (.int .u32 2428436474), .lit (.int .u32 2756734187), .lit (.int .u32 3204031479), .lit (.int .u32 3329325298)]
def laid_traveldoc_traveldocref04_constants {H : Type} : DataW H := .agg [.lit (.int .u32 1116352408), .lit (.int .u32 1899447441), .lit (.int .u32 3049323471), .lit (.int .u32 3921009573), .lit (.int .u32 961987163), .lit (.int .u32 1508970993), .lit (.int .u32 2453635748), .lit (.int .u32 2870763221), .lit (.int .u32 3624381080), .lit (.int .u32 310598401), .lit (.int .u32 607225278), .lit (.int .u32 1426881987), .lit (.int .u32 1925078388), .lit (.int .u32 2162078206), .lit (.int .u32 2614888103), .lit (.int .u32 3248222580), .lit (.int .u32 3835390401), .lit (.int .u32 4022224774), .lit (.int .u32 264347078), .lit (.int .u32 604807628), .lit (.int .u32 770255983), .lit (.int .u32 1249150122), .lit (.int .u32 1555081692), .lit (.int .u32 1996064986), .lit (.int .u32 2554220882), .lit (.int .u32 2821834349), .lit (.int .u32 2952996808), .lit (.int .u32 3210313671), .lit (.int .u32 3336571891), .lit (.int .u32 3584528711), .lit (.int .u32 113926993), .lit (.int .u32 338241895), .lit (.int .u32 666307205), .lit (.int .u32 773529912), .lit (.int .u32 1294757372), .lit (.int .u32 1396182291), .lit (.int .u32 1695183700), .lit (.int .u32 1986661051), .lit (.int .u32 2177026350), .lit (.int .u32 2456956037), .lit (.int .u32 2730485921), .lit (.int .u32 2820302411), .lit (.int .u32 3259730800), .lit (.int .u32 3345764771), .lit (.int .u32 3516065817), .lit (.int .u32 3600352804), .lit (.int .u32 4094571909), .lit (.int .u32 275423344), .lit (.int .u32 430227734), .lit (.int .u32 506948616), .lit (.int .u32 659060556), .lit (.int .u32 883997877), .lit (.int .u32 958139571), .lit (.int .u32 1322822218), .lit (.int .u32 1537002063), .lit (.int .u32 1747873779), .lit (.int .u32 1955562222), .lit (.int .u32 2024104815), .lit (.int .u32 2227730452), .lit (.int .u32 2361852424), .lit (.int .u32 2428436474), .lit (.int .u32 2756734187), .lit (.int .u32 3204031479), .lit (.int .u32 3329325298)]

/-- 'traveldoclaw24.TerminalcertDecodes': WHATEVER THE INPUT: true; the input reads as it did. -/
def terminalcertDecodesSpec : ChangeSpec := { name := "terminalcertDecodes", fn := fun _ => fun
  | [d] => { results := [.lit (.bool true)], args := [d] }
  | _ => none }
def terminalcertDecodesRow : OpenClaim := { program := "yteilglpdmfiinaagreatdoor", sum := "1cb33f24e5d560bc107c9e33adcb0d0b1ae453be92030fea42482f54ff6514d3", func := "traveldoc/traveldoclaw24.TerminalcertDecodes", spec := "terminalcertDecodes", unfollowed := true, recurses := true, named := ["traveldoc/digest.constants"], apart := false, laid := [("traveldoc/digest.constants", laid_traveldoc_digest_constants)] }
def TerminalcertDecodesSaid : Prop := terminalcertDecodesRow.holds Tryz.pinned (OpenSpec.ofChange terminalcertDecodesSpec)

/-- ITS FALSE NEIGHBOUR: 'it returns false'. Refute it at one input. -/
def terminalcertDecodesWrong : ChangeSpec := { name := "terminalcertDecodes", fn := fun _ => fun
  | [d] => { results := [.lit (.bool false)], args := [d] }
  | _ => none }
def TerminalcertDecodesWrongFalsely : Prop := terminalcertDecodesRow.holds Tryz.pinned (OpenSpec.ofChange terminalcertDecodesWrong)

/-- 'traveldoclaw24.TerminalcertIssues': WHATEVER THE INPUT: true; the input reads as it did. -/
def terminalcertIssuesSpec : ChangeSpec := { name := "terminalcertIssues", fn := fun _ => fun
  | [d1, d2, d3] => { results := [.lit (.bool true)], args := [d1, d2, d3] }
  | _ => none }
def terminalcertIssuesRow : OpenClaim := { program := "yteilglpdmfiinaagreatdoor", sum := "1cb33f24e5d560bc107c9e33adcb0d0b1ae453be92030fea42482f54ff6514d3", func := "traveldoc/traveldoclaw24.TerminalcertIssues", spec := "terminalcertIssues", unfollowed := true, recurses := true, named := ["traveldoc/digest.constants", "traveldoc/traveldocref04.constants"], apart := false, laid := [("traveldoc/traveldocref04.constants", laid_traveldoc_traveldocref04_constants), ("traveldoc/digest.constants", laid_traveldoc_digest_constants)] }
def TerminalcertIssuesSaid : Prop := terminalcertIssuesRow.holds Tryz.pinned (OpenSpec.ofChange terminalcertIssuesSpec)

/-- ITS FALSE NEIGHBOUR: 'it returns false'. Refute it at one input. -/
def terminalcertIssuesWrong : ChangeSpec := { name := "terminalcertIssues", fn := fun _ => fun
  | [d1, d2, d3] => { results := [.lit (.bool false)], args := [d1, d2, d3] }
  | _ => none }
def TerminalcertIssuesWrongFalsely : Prop := terminalcertIssuesRow.holds Tryz.pinned (OpenSpec.ofChange terminalcertIssuesWrong)

/-- 'traveldoclaw24.TerminalcertBack': WHATEVER THE INPUT: true; the input reads as it did. -/
def terminalcertBackSpec : ChangeSpec := { name := "terminalcertBack", fn := fun _ => fun
  | [d1, d2, d3, d4, d5] => { results := [.lit (.bool true)], args := [d1, d2, d3, d4, d5] }
  | _ => none }
def terminalcertBackRow : OpenClaim := { program := "yteilglpdmfiinaagreatdoor", sum := "1cb33f24e5d560bc107c9e33adcb0d0b1ae453be92030fea42482f54ff6514d3", func := "traveldoc/traveldoclaw24.TerminalcertBack", spec := "terminalcertBack", unfollowed := true, recurses := true, named := ["traveldoc/digest.constants", "traveldoc/traveldocref04.constants"], apart := false, laid := [("traveldoc/traveldocref04.constants", laid_traveldoc_traveldocref04_constants), ("traveldoc/digest.constants", laid_traveldoc_digest_constants)] }
def TerminalcertBackSaid : Prop := terminalcertBackRow.holds Tryz.pinned (OpenSpec.ofChange terminalcertBackSpec)

/-- ITS FALSE NEIGHBOUR: 'it returns false'. Refute it at one input. -/
def terminalcertBackWrong : ChangeSpec := { name := "terminalcertBack", fn := fun _ => fun
  | [d1, d2, d3, d4, d5] => { results := [.lit (.bool false)], args := [d1, d2, d3, d4, d5] }
  | _ => none }
def TerminalcertBackWrongFalsely : Prop := terminalcertBackRow.holds Tryz.pinned (OpenSpec.ofChange terminalcertBackWrong)

/-- 'traveldoclaw26.TerminalchainStarts': WHATEVER THE INPUT: true; the input reads as it did. -/
def terminalchainStartsSpec : ChangeSpec := { name := "terminalchainStarts", fn := fun _ => fun
  | [d1, d2] => { results := [.lit (.bool true)], args := [d1, d2] }
  | _ => none }
def terminalchainStartsRow : OpenClaim := { program := "yteilglpdmfiinaagreatdoor", sum := "1cb33f24e5d560bc107c9e33adcb0d0b1ae453be92030fea42482f54ff6514d3", func := "traveldoc/traveldoclaw26.TerminalchainStarts", spec := "terminalchainStarts", unfollowed := true, recurses := true, named := ["traveldoc/traveldocref04.constants", "traveldoc/digest.constants"], apart := false, laid := [("traveldoc/traveldocref04.constants", laid_traveldoc_traveldocref04_constants), ("traveldoc/digest.constants", laid_traveldoc_digest_constants)] }
def TerminalchainStartsSaid : Prop := terminalchainStartsRow.holds Tryz.pinned (OpenSpec.ofChange terminalchainStartsSpec)

/-- ITS FALSE NEIGHBOUR: 'it returns false'. Refute it at one input. -/
def terminalchainStartsWrong : ChangeSpec := { name := "terminalchainStarts", fn := fun _ => fun
  | [d1, d2] => { results := [.lit (.bool false)], args := [d1, d2] }
  | _ => none }
def TerminalchainStartsWrongFalsely : Prop := terminalchainStartsRow.holds Tryz.pinned (OpenSpec.ofChange terminalchainStartsWrong)

/-- 'traveldoclaw26.TerminalchainImports': WHATEVER THE INPUT: true; the input reads as it did. -/
def terminalchainImportsSpec : ChangeSpec := { name := "terminalchainImports", fn := fun _ => fun
  | [d1, d2, d3] => { results := [.lit (.bool true)], args := [d1, d2, d3] }
  | _ => none }
def terminalchainImportsRow : OpenClaim := { program := "yteilglpdmfiinaagreatdoor", sum := "1cb33f24e5d560bc107c9e33adcb0d0b1ae453be92030fea42482f54ff6514d3", func := "traveldoc/traveldoclaw26.TerminalchainImports", spec := "terminalchainImports", unfollowed := true, recurses := true, named := ["traveldoc/traveldocref04.constants", "traveldoc/digest.constants"], apart := false, laid := [("traveldoc/traveldocref04.constants", laid_traveldoc_traveldocref04_constants), ("traveldoc/digest.constants", laid_traveldoc_digest_constants)] }
def TerminalchainImportsSaid : Prop := terminalchainImportsRow.holds Tryz.pinned (OpenSpec.ofChange terminalchainImportsSpec)

/-- ITS FALSE NEIGHBOUR: 'it returns false'. Refute it at one input. -/
def terminalchainImportsWrong : ChangeSpec := { name := "terminalchainImports", fn := fun _ => fun
  | [d1, d2, d3] => { results := [.lit (.bool false)], args := [d1, d2, d3] }
  | _ => none }
def TerminalchainImportsWrongFalsely : Prop := terminalchainImportsRow.holds Tryz.pinned (OpenSpec.ofChange terminalchainImportsWrong)

/-- 'traveldoclaw26.TerminalchainPaths': WHATEVER THE INPUT: true; the input reads as it did. -/
def terminalchainPathsSpec : ChangeSpec := { name := "terminalchainPaths", fn := fun _ => fun
  | [d1, d2, d3, d4] => { results := [.lit (.bool true)], args := [d1, d2, d3, d4] }
  | _ => none }
def terminalchainPathsRow : OpenClaim := { program := "yteilglpdmfiinaagreatdoor", sum := "1cb33f24e5d560bc107c9e33adcb0d0b1ae453be92030fea42482f54ff6514d3", func := "traveldoc/traveldoclaw26.TerminalchainPaths", spec := "terminalchainPaths", unfollowed := true, recurses := true, named := ["traveldoc/traveldocref04.constants", "traveldoc/digest.constants"], apart := false, laid := [("traveldoc/traveldocref04.constants", laid_traveldoc_traveldocref04_constants), ("traveldoc/digest.constants", laid_traveldoc_digest_constants)] }
def TerminalchainPathsSaid : Prop := terminalchainPathsRow.holds Tryz.pinned (OpenSpec.ofChange terminalchainPathsSpec)

/-- ITS FALSE NEIGHBOUR: 'it returns false'. Refute it at one input. -/
def terminalchainPathsWrong : ChangeSpec := { name := "terminalchainPaths", fn := fun _ => fun
  | [d1, d2, d3, d4] => { results := [.lit (.bool false)], args := [d1, d2, d3, d4] }
  | _ => none }
def TerminalchainPathsWrongFalsely : Prop := terminalchainPathsRow.holds Tryz.pinned (OpenSpec.ofChange terminalchainPathsWrong)

/-- 'traveldoclaw26.TerminalchainRights': WHATEVER THE INPUT: true; the input reads as it did. -/
def terminalchainRightsSpec : ChangeSpec := { name := "terminalchainRights", fn := fun _ => fun
  | [d1, d2] => { results := [.lit (.bool true)], args := [d1, d2] }
  | _ => none }
def terminalchainRightsRow : OpenClaim := { program := "yteilglpdmfiinaagreatdoor", sum := "1cb33f24e5d560bc107c9e33adcb0d0b1ae453be92030fea42482f54ff6514d3", func := "traveldoc/traveldoclaw26.TerminalchainRights", spec := "terminalchainRights", unfollowed := true, recurses := true, named := ["traveldoc/traveldocref04.constants", "traveldoc/digest.constants"], apart := false, laid := [("traveldoc/traveldocref04.constants", laid_traveldoc_traveldocref04_constants), ("traveldoc/digest.constants", laid_traveldoc_digest_constants)] }
def TerminalchainRightsSaid : Prop := terminalchainRightsRow.holds Tryz.pinned (OpenSpec.ofChange terminalchainRightsSpec)

/-- ITS FALSE NEIGHBOUR: 'it returns false'. Refute it at one input. -/
def terminalchainRightsWrong : ChangeSpec := { name := "terminalchainRights", fn := fun _ => fun
  | [d1, d2] => { results := [.lit (.bool false)], args := [d1, d2] }
  | _ => none }
def TerminalchainRightsWrongFalsely : Prop := terminalchainRightsRow.holds Tryz.pinned (OpenSpec.ofChange terminalchainRightsWrong)

/-- 'traveldoclaw29.NationalcertDecodes': WHATEVER THE INPUT: true; the input reads as it did. -/
def nationalcertDecodesSpec : ChangeSpec := { name := "nationalcertDecodes", fn := fun _ => fun
  | [d] => { results := [.lit (.bool true)], args := [d] }
  | _ => none }
def nationalcertDecodesRow : OpenClaim := { program := "yteilglpdmfiinaagreatdoor", sum := "1cb33f24e5d560bc107c9e33adcb0d0b1ae453be92030fea42482f54ff6514d3", func := "traveldoc/traveldoclaw29.NationalcertDecodes", spec := "nationalcertDecodes", unfollowed := true, recurses := true, named := ["traveldoc/digest.constants"], apart := false, laid := [("traveldoc/digest.constants", laid_traveldoc_digest_constants)] }
def NationalcertDecodesSaid : Prop := nationalcertDecodesRow.holds Tryz.pinned (OpenSpec.ofChange nationalcertDecodesSpec)

/-- ITS FALSE NEIGHBOUR: 'it returns false'. Refute it at one input. -/
def nationalcertDecodesWrong : ChangeSpec := { name := "nationalcertDecodes", fn := fun _ => fun
  | [d] => { results := [.lit (.bool false)], args := [d] }
  | _ => none }
def NationalcertDecodesWrongFalsely : Prop := nationalcertDecodesRow.holds Tryz.pinned (OpenSpec.ofChange nationalcertDecodesWrong)

/-- 'traveldoclaw29.NationalcertIssues': WHATEVER THE INPUT: true; the input reads as it did. -/
def nationalcertIssuesSpec : ChangeSpec := { name := "nationalcertIssues", fn := fun _ => fun
  | [d1, d2, d3] => { results := [.lit (.bool true)], args := [d1, d2, d3] }
  | _ => none }
def nationalcertIssuesRow : OpenClaim := { program := "yteilglpdmfiinaagreatdoor", sum := "1cb33f24e5d560bc107c9e33adcb0d0b1ae453be92030fea42482f54ff6514d3", func := "traveldoc/traveldoclaw29.NationalcertIssues", spec := "nationalcertIssues", unfollowed := true, recurses := true, named := ["traveldoc/digest.constants", "traveldoc/traveldocref04.constants"], apart := false, laid := [("traveldoc/traveldocref04.constants", laid_traveldoc_traveldocref04_constants), ("traveldoc/digest.constants", laid_traveldoc_digest_constants)] }
def NationalcertIssuesSaid : Prop := nationalcertIssuesRow.holds Tryz.pinned (OpenSpec.ofChange nationalcertIssuesSpec)

/-- ITS FALSE NEIGHBOUR: 'it returns false'. Refute it at one input. -/
def nationalcertIssuesWrong : ChangeSpec := { name := "nationalcertIssues", fn := fun _ => fun
  | [d1, d2, d3] => { results := [.lit (.bool false)], args := [d1, d2, d3] }
  | _ => none }
def NationalcertIssuesWrongFalsely : Prop := nationalcertIssuesRow.holds Tryz.pinned (OpenSpec.ofChange nationalcertIssuesWrong)

/-- 'traveldoclaw29.NationalcertBack': WHATEVER THE INPUT: true; the input reads as it did. -/
def nationalcertBackSpec : ChangeSpec := { name := "nationalcertBack", fn := fun _ => fun
  | [d] => { results := [.lit (.bool true)], args := [d] }
  | _ => none }
def nationalcertBackRow : OpenClaim := { program := "yteilglpdmfiinaagreatdoor", sum := "1cb33f24e5d560bc107c9e33adcb0d0b1ae453be92030fea42482f54ff6514d3", func := "traveldoc/traveldoclaw29.NationalcertBack", spec := "nationalcertBack", unfollowed := true, recurses := true, named := ["traveldoc/digest.constants", "traveldoc/traveldocref04.constants"], apart := false, laid := [("traveldoc/traveldocref04.constants", laid_traveldoc_traveldocref04_constants), ("traveldoc/digest.constants", laid_traveldoc_digest_constants)] }
def NationalcertBackSaid : Prop := nationalcertBackRow.holds Tryz.pinned (OpenSpec.ofChange nationalcertBackSpec)

/-- ITS FALSE NEIGHBOUR: 'it returns false'. Refute it at one input. -/
def nationalcertBackWrong : ChangeSpec := { name := "nationalcertBack", fn := fun _ => fun
  | [d] => { results := [.lit (.bool false)], args := [d] }
  | _ => none }
def NationalcertBackWrongFalsely : Prop := nationalcertBackRow.holds Tryz.pinned (OpenSpec.ofChange nationalcertBackWrong)

/-- 'traveldoclaw30.NationalchainProves': WHATEVER THE INPUT: true; the input reads as it did. -/
def nationalchainProvesSpec : ChangeSpec := { name := "nationalchainProves", fn := fun _ => fun
  | [d1, d2] => { results := [.lit (.bool true)], args := [d1, d2] }
  | _ => none }
def nationalchainProvesRow : OpenClaim := { program := "yteilglpdmfiinaagreatdoor", sum := "1cb33f24e5d560bc107c9e33adcb0d0b1ae453be92030fea42482f54ff6514d3", func := "traveldoc/traveldoclaw30.NationalchainProves", spec := "nationalchainProves", unfollowed := true, recurses := true, named := ["traveldoc/traveldocref04.constants", "traveldoc/digest.constants"], apart := false, laid := [("traveldoc/traveldocref04.constants", laid_traveldoc_traveldocref04_constants), ("traveldoc/digest.constants", laid_traveldoc_digest_constants)] }
def NationalchainProvesSaid : Prop := nationalchainProvesRow.holds Tryz.pinned (OpenSpec.ofChange nationalchainProvesSpec)

/-- ITS FALSE NEIGHBOUR: 'it returns false'. Refute it at one input. -/
def nationalchainProvesWrong : ChangeSpec := { name := "nationalchainProves", fn := fun _ => fun
  | [d1, d2] => { results := [.lit (.bool false)], args := [d1, d2] }
  | _ => none }
def NationalchainProvesWrongFalsely : Prop := nationalchainProvesRow.holds Tryz.pinned (OpenSpec.ofChange nationalchainProvesWrong)

/-- 'traveldoclaw30.NationalchainMade': WHATEVER THE INPUT: true; the input reads as it did. -/
def nationalchainMadeSpec : ChangeSpec := { name := "nationalchainMade", fn := fun _ => fun
  | [d1, d2, d3, d4, d5] => { results := [.lit (.bool true)], args := [d1, d2, d3, d4, d5] }
  | _ => none }
def nationalchainMadeRow : OpenClaim := { program := "yteilglpdmfiinaagreatdoor", sum := "1cb33f24e5d560bc107c9e33adcb0d0b1ae453be92030fea42482f54ff6514d3", func := "traveldoc/traveldoclaw30.NationalchainMade", spec := "nationalchainMade", unfollowed := true, recurses := true, named := ["traveldoc/traveldocref04.constants", "traveldoc/digest.constants"], apart := false, laid := [("traveldoc/traveldocref04.constants", laid_traveldoc_traveldocref04_constants), ("traveldoc/digest.constants", laid_traveldoc_digest_constants)] }
def NationalchainMadeSaid : Prop := nationalchainMadeRow.holds Tryz.pinned (OpenSpec.ofChange nationalchainMadeSpec)

/-- ITS FALSE NEIGHBOUR: 'it returns false'. Refute it at one input. -/
def nationalchainMadeWrong : ChangeSpec := { name := "nationalchainMade", fn := fun _ => fun
  | [d1, d2, d3, d4, d5] => { results := [.lit (.bool false)], args := [d1, d2, d3, d4, d5] }
  | _ => none }
def NationalchainMadeWrongFalsely : Prop := nationalchainMadeRow.holds Tryz.pinned (OpenSpec.ofChange nationalchainMadeWrong)

/-- 'traveldoclaw30.NationalchainGrows': WHATEVER THE INPUT: true; the input reads as it did. -/
def nationalchainGrowsSpec : ChangeSpec := { name := "nationalchainGrows", fn := fun _ => fun
  | [d1, d2, d3] => { results := [.lit (.bool true)], args := [d1, d2, d3] }
  | _ => none }
def nationalchainGrowsRow : OpenClaim := { program := "yteilglpdmfiinaagreatdoor", sum := "1cb33f24e5d560bc107c9e33adcb0d0b1ae453be92030fea42482f54ff6514d3", func := "traveldoc/traveldoclaw30.NationalchainGrows", spec := "nationalchainGrows", unfollowed := true, recurses := true, named := ["traveldoc/traveldocref04.constants", "traveldoc/digest.constants"], apart := false, laid := [("traveldoc/traveldocref04.constants", laid_traveldoc_traveldocref04_constants), ("traveldoc/digest.constants", laid_traveldoc_digest_constants)] }
def NationalchainGrowsSaid : Prop := nationalchainGrowsRow.holds Tryz.pinned (OpenSpec.ofChange nationalchainGrowsSpec)

/-- ITS FALSE NEIGHBOUR: 'it returns false'. Refute it at one input. -/
def nationalchainGrowsWrong : ChangeSpec := { name := "nationalchainGrows", fn := fun _ => fun
  | [d1, d2, d3] => { results := [.lit (.bool false)], args := [d1, d2, d3] }
  | _ => none }
def NationalchainGrowsWrongFalsely : Prop := nationalchainGrowsRow.holds Tryz.pinned (OpenSpec.ofChange nationalchainGrowsWrong)

/- THE SECOND FORM. 'bulk': how many values and letters a reading holds, each counted each time it is reached (what is shared counts as often as it is met; a slice's spare places count too). A statement '..UptoSaid' is the law's where the arguments, and the package variables that the reading takes, are together of bulk at most 1048576: NARROWER than '..Said'. Prove '..Said' where nothing that the law and all that it calls make is longer than what came in: it says more and counts as full. Else prove '..UptoSaid'. A law counts once. -/
mutual
def uptoBulk {H : Type} : DataW H → Nat
  | .lit (.string bytes) => bytes.length + 1
  | .lit _ => 1
  | .nil => 1
  | .ptr d => uptoBulk d + 1
  | .slice elems spare => uptoBulkAll elems + uptoBulkAll spare + 1
  | .agg parts => uptoBulkAll parts + 1
  | .iface _ d => uptoBulk d + 1
  | .map entries => uptoBulkEntries entries + 1
  | .held _ => 1
def uptoBulkAll {H : Type} : List (DataW H) → Nat
  | [] => 0
  | d :: r => uptoBulk d + uptoBulkAll r
def uptoBulkEntries {H : Type} : List (Lit × DataW H) → Nat
  | [] => 0
  | x :: r => uptoBulkEntry x + uptoBulkEntries r
def uptoBulkEntry {H : Type} : Lit × DataW H → Nat
  | (.string bytes, d) => bytes.length + uptoBulk d + 1
  | (_, d) => uptoBulk d + 1
 end
def uptoSmall : (H : Type) → List (DataW H) → Bool := fun _ ds => decide (uptoBulkAll ds ≤ 1048576)
def OpenSpec.upto (s : _root_.Go.ChangeSpec) : _root_.Go.OpenSpec := { _root_.Go.OpenSpec.ofChange s with cond := some uptoSmall }

/-- 'traveldoclaw24.TerminalcertDecodes', WHERE WHAT IT READS IS OF BULK AT MOST 1048576: true; the input reads as it did. -/
def terminalcertDecodesUptoRow : OpenClaim := { program := "yteilglpdmfiinaagreatdoor", sum := "1cb33f24e5d560bc107c9e33adcb0d0b1ae453be92030fea42482f54ff6514d3", func := "traveldoc/traveldoclaw24.TerminalcertDecodes", spec := "terminalcertDecodes", unfollowed := true, recurses := true, named := ["traveldoc/digest.constants"], apart := false, laid := [("traveldoc/digest.constants", laid_traveldoc_digest_constants)], narrowed := true }
def TerminalcertDecodesUptoSaid : Prop := terminalcertDecodesUptoRow.holds Tryz.pinned (OpenSpec.upto terminalcertDecodesSpec)

/-- 'traveldoclaw24.TerminalcertIssues', WHERE WHAT IT READS IS OF BULK AT MOST 1048576: true; the input reads as it did. -/
def terminalcertIssuesUptoRow : OpenClaim := { program := "yteilglpdmfiinaagreatdoor", sum := "1cb33f24e5d560bc107c9e33adcb0d0b1ae453be92030fea42482f54ff6514d3", func := "traveldoc/traveldoclaw24.TerminalcertIssues", spec := "terminalcertIssues", unfollowed := true, recurses := true, named := ["traveldoc/digest.constants", "traveldoc/traveldocref04.constants"], apart := false, laid := [("traveldoc/traveldocref04.constants", laid_traveldoc_traveldocref04_constants), ("traveldoc/digest.constants", laid_traveldoc_digest_constants)], narrowed := true }
def TerminalcertIssuesUptoSaid : Prop := terminalcertIssuesUptoRow.holds Tryz.pinned (OpenSpec.upto terminalcertIssuesSpec)

/-- 'traveldoclaw24.TerminalcertBack', WHERE WHAT IT READS IS OF BULK AT MOST 1048576: true; the input reads as it did. -/
def terminalcertBackUptoRow : OpenClaim := { program := "yteilglpdmfiinaagreatdoor", sum := "1cb33f24e5d560bc107c9e33adcb0d0b1ae453be92030fea42482f54ff6514d3", func := "traveldoc/traveldoclaw24.TerminalcertBack", spec := "terminalcertBack", unfollowed := true, recurses := true, named := ["traveldoc/digest.constants", "traveldoc/traveldocref04.constants"], apart := false, laid := [("traveldoc/traveldocref04.constants", laid_traveldoc_traveldocref04_constants), ("traveldoc/digest.constants", laid_traveldoc_digest_constants)], narrowed := true }
def TerminalcertBackUptoSaid : Prop := terminalcertBackUptoRow.holds Tryz.pinned (OpenSpec.upto terminalcertBackSpec)

/-- 'traveldoclaw26.TerminalchainStarts', WHERE WHAT IT READS IS OF BULK AT MOST 1048576: true; the input reads as it did. -/
def terminalchainStartsUptoRow : OpenClaim := { program := "yteilglpdmfiinaagreatdoor", sum := "1cb33f24e5d560bc107c9e33adcb0d0b1ae453be92030fea42482f54ff6514d3", func := "traveldoc/traveldoclaw26.TerminalchainStarts", spec := "terminalchainStarts", unfollowed := true, recurses := true, named := ["traveldoc/traveldocref04.constants", "traveldoc/digest.constants"], apart := false, laid := [("traveldoc/traveldocref04.constants", laid_traveldoc_traveldocref04_constants), ("traveldoc/digest.constants", laid_traveldoc_digest_constants)], narrowed := true }
def TerminalchainStartsUptoSaid : Prop := terminalchainStartsUptoRow.holds Tryz.pinned (OpenSpec.upto terminalchainStartsSpec)

/-- 'traveldoclaw26.TerminalchainImports', WHERE WHAT IT READS IS OF BULK AT MOST 1048576: true; the input reads as it did. -/
def terminalchainImportsUptoRow : OpenClaim := { program := "yteilglpdmfiinaagreatdoor", sum := "1cb33f24e5d560bc107c9e33adcb0d0b1ae453be92030fea42482f54ff6514d3", func := "traveldoc/traveldoclaw26.TerminalchainImports", spec := "terminalchainImports", unfollowed := true, recurses := true, named := ["traveldoc/traveldocref04.constants", "traveldoc/digest.constants"], apart := false, laid := [("traveldoc/traveldocref04.constants", laid_traveldoc_traveldocref04_constants), ("traveldoc/digest.constants", laid_traveldoc_digest_constants)], narrowed := true }
def TerminalchainImportsUptoSaid : Prop := terminalchainImportsUptoRow.holds Tryz.pinned (OpenSpec.upto terminalchainImportsSpec)

/-- 'traveldoclaw26.TerminalchainPaths', WHERE WHAT IT READS IS OF BULK AT MOST 1048576: true; the input reads as it did. -/
def terminalchainPathsUptoRow : OpenClaim := { program := "yteilglpdmfiinaagreatdoor", sum := "1cb33f24e5d560bc107c9e33adcb0d0b1ae453be92030fea42482f54ff6514d3", func := "traveldoc/traveldoclaw26.TerminalchainPaths", spec := "terminalchainPaths", unfollowed := true, recurses := true, named := ["traveldoc/traveldocref04.constants", "traveldoc/digest.constants"], apart := false, laid := [("traveldoc/traveldocref04.constants", laid_traveldoc_traveldocref04_constants), ("traveldoc/digest.constants", laid_traveldoc_digest_constants)], narrowed := true }
def TerminalchainPathsUptoSaid : Prop := terminalchainPathsUptoRow.holds Tryz.pinned (OpenSpec.upto terminalchainPathsSpec)

/-- 'traveldoclaw26.TerminalchainRights', WHERE WHAT IT READS IS OF BULK AT MOST 1048576: true; the input reads as it did. -/
def terminalchainRightsUptoRow : OpenClaim := { program := "yteilglpdmfiinaagreatdoor", sum := "1cb33f24e5d560bc107c9e33adcb0d0b1ae453be92030fea42482f54ff6514d3", func := "traveldoc/traveldoclaw26.TerminalchainRights", spec := "terminalchainRights", unfollowed := true, recurses := true, named := ["traveldoc/traveldocref04.constants", "traveldoc/digest.constants"], apart := false, laid := [("traveldoc/traveldocref04.constants", laid_traveldoc_traveldocref04_constants), ("traveldoc/digest.constants", laid_traveldoc_digest_constants)], narrowed := true }
def TerminalchainRightsUptoSaid : Prop := terminalchainRightsUptoRow.holds Tryz.pinned (OpenSpec.upto terminalchainRightsSpec)

/-- 'traveldoclaw29.NationalcertDecodes', WHERE WHAT IT READS IS OF BULK AT MOST 1048576: true; the input reads as it did. -/
def nationalcertDecodesUptoRow : OpenClaim := { program := "yteilglpdmfiinaagreatdoor", sum := "1cb33f24e5d560bc107c9e33adcb0d0b1ae453be92030fea42482f54ff6514d3", func := "traveldoc/traveldoclaw29.NationalcertDecodes", spec := "nationalcertDecodes", unfollowed := true, recurses := true, named := ["traveldoc/digest.constants"], apart := false, laid := [("traveldoc/digest.constants", laid_traveldoc_digest_constants)], narrowed := true }
def NationalcertDecodesUptoSaid : Prop := nationalcertDecodesUptoRow.holds Tryz.pinned (OpenSpec.upto nationalcertDecodesSpec)

/-- 'traveldoclaw29.NationalcertIssues', WHERE WHAT IT READS IS OF BULK AT MOST 1048576: true; the input reads as it did. -/
def nationalcertIssuesUptoRow : OpenClaim := { program := "yteilglpdmfiinaagreatdoor", sum := "1cb33f24e5d560bc107c9e33adcb0d0b1ae453be92030fea42482f54ff6514d3", func := "traveldoc/traveldoclaw29.NationalcertIssues", spec := "nationalcertIssues", unfollowed := true, recurses := true, named := ["traveldoc/digest.constants", "traveldoc/traveldocref04.constants"], apart := false, laid := [("traveldoc/traveldocref04.constants", laid_traveldoc_traveldocref04_constants), ("traveldoc/digest.constants", laid_traveldoc_digest_constants)], narrowed := true }
def NationalcertIssuesUptoSaid : Prop := nationalcertIssuesUptoRow.holds Tryz.pinned (OpenSpec.upto nationalcertIssuesSpec)

/-- 'traveldoclaw29.NationalcertBack', WHERE WHAT IT READS IS OF BULK AT MOST 1048576: true; the input reads as it did. -/
def nationalcertBackUptoRow : OpenClaim := { program := "yteilglpdmfiinaagreatdoor", sum := "1cb33f24e5d560bc107c9e33adcb0d0b1ae453be92030fea42482f54ff6514d3", func := "traveldoc/traveldoclaw29.NationalcertBack", spec := "nationalcertBack", unfollowed := true, recurses := true, named := ["traveldoc/digest.constants", "traveldoc/traveldocref04.constants"], apart := false, laid := [("traveldoc/traveldocref04.constants", laid_traveldoc_traveldocref04_constants), ("traveldoc/digest.constants", laid_traveldoc_digest_constants)], narrowed := true }
def NationalcertBackUptoSaid : Prop := nationalcertBackUptoRow.holds Tryz.pinned (OpenSpec.upto nationalcertBackSpec)

/-- 'traveldoclaw30.NationalchainProves', WHERE WHAT IT READS IS OF BULK AT MOST 1048576: true; the input reads as it did. -/
def nationalchainProvesUptoRow : OpenClaim := { program := "yteilglpdmfiinaagreatdoor", sum := "1cb33f24e5d560bc107c9e33adcb0d0b1ae453be92030fea42482f54ff6514d3", func := "traveldoc/traveldoclaw30.NationalchainProves", spec := "nationalchainProves", unfollowed := true, recurses := true, named := ["traveldoc/traveldocref04.constants", "traveldoc/digest.constants"], apart := false, laid := [("traveldoc/traveldocref04.constants", laid_traveldoc_traveldocref04_constants), ("traveldoc/digest.constants", laid_traveldoc_digest_constants)], narrowed := true }
def NationalchainProvesUptoSaid : Prop := nationalchainProvesUptoRow.holds Tryz.pinned (OpenSpec.upto nationalchainProvesSpec)

/-- 'traveldoclaw30.NationalchainMade', WHERE WHAT IT READS IS OF BULK AT MOST 1048576: true; the input reads as it did. -/
def nationalchainMadeUptoRow : OpenClaim := { program := "yteilglpdmfiinaagreatdoor", sum := "1cb33f24e5d560bc107c9e33adcb0d0b1ae453be92030fea42482f54ff6514d3", func := "traveldoc/traveldoclaw30.NationalchainMade", spec := "nationalchainMade", unfollowed := true, recurses := true, named := ["traveldoc/traveldocref04.constants", "traveldoc/digest.constants"], apart := false, laid := [("traveldoc/traveldocref04.constants", laid_traveldoc_traveldocref04_constants), ("traveldoc/digest.constants", laid_traveldoc_digest_constants)], narrowed := true }
def NationalchainMadeUptoSaid : Prop := nationalchainMadeUptoRow.holds Tryz.pinned (OpenSpec.upto nationalchainMadeSpec)

/-- 'traveldoclaw30.NationalchainGrows', WHERE WHAT IT READS IS OF BULK AT MOST 1048576: true; the input reads as it did. -/
def nationalchainGrowsUptoRow : OpenClaim := { program := "yteilglpdmfiinaagreatdoor", sum := "1cb33f24e5d560bc107c9e33adcb0d0b1ae453be92030fea42482f54ff6514d3", func := "traveldoc/traveldoclaw30.NationalchainGrows", spec := "nationalchainGrows", unfollowed := true, recurses := true, named := ["traveldoc/traveldocref04.constants", "traveldoc/digest.constants"], apart := false, laid := [("traveldoc/traveldocref04.constants", laid_traveldoc_traveldocref04_constants), ("traveldoc/digest.constants", laid_traveldoc_digest_constants)], narrowed := true }
def NationalchainGrowsUptoSaid : Prop := nationalchainGrowsUptoRow.holds Tryz.pinned (OpenSpec.upto nationalchainGrowsSpec)

end Rows
end Go.Proofs.YteilglpdmfiinaaGreatDoor
