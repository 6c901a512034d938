/-
  NARROWER THAN 'FOR EVERY INPUT', by the rows' own cells (each row's printed sentence says how): TerminalchainStarts: laid · TerminalchainImports: laid · TerminalchainPaths: laid · TerminalchainRights: laid · NationalchainProves: laid · NationalchainMade: laid · NationalchainGrows: laid · MasterlistMade: laid · MasterlistRaw: laid · MasterlistNewer: laid · RevocationMade: laid · RevocationNewest: laid · RevocationRaw: laid · DeviationMade: laid · DeviationRaw: laid · DeviationOwn: laid.
  DERIVED. THE GIVEN ROWS OF THIS SEAT. 16 by the template 'for every input the law returns true; each argument reads behind the call as it read before'; 0 by the template 'total and deterministic' (their statements: YtkjplpmogfmhkaaGreatDoorTotals.lean).
  GIVEN WITH THE SEED: the statements are not yours to turn. If you find one false, say at which input.
  Laid BY PROGRAM, IN A SANDBOX (cutbox-rows.mjs): the forced cells as the released guide's own fill.sh prints them over the translation 626297051b437a7a… (all of the seat's roots in one cut). By AI agents, Wed Nov 11 2026. No macro, syntax, notation, axiom, sorry.
-/
import Derived.Test.YtkjplpmogfmhkaaGreatDoorChecked
import GoSem.Claim
import GoSem.ClaimJoined
import GoSem.ClaimMapViews
import Derived.JoinedTies
import Derived.KernelRfl
namespace Go.Proofs.YtkjplpmogfmhkaaGreatDoor
/- THE CELL 'sum', in the pinned program and in every row, IS THE sha256 OF THE DUMP (.gsa) THAT YtkjplpmogfmhkaaGreatDoorProg.lean LOADS. Nothing in Lean hashes anything: it is a label: what it is worth is what the hold of that sum in a sandbox is worth. -/
noncomputable def Tryz.pinned : Pinned := { name := "ytkjplpmogfmhkaagreatdoor", sum := "626297051b437a7ab01bfce5fc271de31ddc030bb720ef5c51481c5a5269cc3e", checked := Tryz.checked }
namespace Rows
def none {H : Type} : Left H := { results := [], args := [] }

/- WHAT THE LISTED PACKAGE-LEVEL VARIABLES READ AS WHEN THE CALL BEGINS. Each datum BY PROGRAM (the guide's laid-datum.mjs) off the statement by which the dump's own 'gosem.cut.vars' lays the variable. In a bare row this is a premise. The card (YtkjplpmogfmhkaaGreatDoorCards.lean) ties it to the program's text. -/
def laid_traveldoc_traveldocref04_constants {H : Type} : DataW H := .agg [.lit (.int .u32 1116352408), .lit (.int .u32 1899447441), .lit (.int .u32 3049323471), .lit (.int .u32 3921009573), .lit (.int .u32 961987163), .lit (.int .u32 1508970993), .lit (.int .u32 2453635748), .lit (.int .u32 2870763221), .lit (.int .u32 3624381080), .lit (.int .u32 310598401), .lit (.int .u32 607225278), .lit (.int .u32 1426881987), .lit (.int .u32 1925078388), .lit (.int .u32 2162078206), .lit (.int .u32 2614888103), .lit (.int .u32 3248222580), .lit (.int .u32 3835390401), .lit (.int .u32 4022224774), .lit (.int .u32 264347078), .lit (.int .u32 604807628), .lit (.int .u32 770255983), .lit (.int .u32 1249150122), .lit (.int .u32 1555081692), .lit (.int .u32 1996064986), .lit (.int .u32 2554220882), .lit (.int .u32 2821834349), .lit (.int .u32 2952996808), .lit (.int .u32 3210313671), .lit (.int .u32 3336571891), .lit (.int .u32 3584528711), .lit (.int .u32 113926993), .lit (.int .u32 338241895), .lit (.int .u32 666307205), .lit (.int .u32 773529912), .lit (.int .u32 1294757372), .lit (.int .u32 1396182291), .lit (.int .u32 1695183700), .lit (.int .u32 1986661051), .lit (.int .u32 2177026350), .lit (.int .u32 2456956037), .lit (.int .u32 2730485921), .lit (.int .u32 2820302411), .lit (.int .u32 3259730800), .lit (.int .u32 3345764771), .lit (.int .u32 3516065817), .lit (.int .u32 3600352804), .lit (.int .u32 4094571909), .lit (.int .u32 275423344), .lit (.int .u32 430227734), .lit (.int .u32 506948616), .lit (.int .u32 659060556), .lit (.int .u32 883997877), .lit (.int .u32 958139571), .lit (.int .u32 1322822218), .lit (.int .u32 1537002063), .lit (.int .u32 1747873779), .lit (.int .u32 1955562222), .lit (.int .u32 2024104815), .lit (.int .u32 2227730452), .lit (.int .u32 2361852424), .lit (.int .u32 2428436474), .lit (.int .u32 2756734187), .lit (.int .u32 3204031479), .lit (.int .u32 3329325298)]
def laid_traveldoc_digest_constants {H : Type} : DataW H := .agg [.lit (.int .u32 1116352408), .lit (.int .u32 1899447441), .lit (.int .u32 3049323471), .lit (.int .u32 3921009573), .lit (.int .u32 961987163), .lit (.int .u32 1508970993), .lit (.int .u32 2453635748), .lit (.int .u32 2870763221), .lit (.int .u32 3624381080), .lit (.int .u32 310598401), .lit (.int .u32 607225278), .lit (.int .u32 1426881987), .lit (.int .u32 1925078388), .lit (.int .u32 2162078206), .lit (.int .u32 2614888103), .lit (.int .u32 3248222580), .lit (.int .u32 3835390401), .lit (.int .u32 4022224774), .lit (.int .u32 264347078), .lit (.int .u32 604807628), .lit (.int .u32 770255983), .lit (.int .u32 1249150122), .lit (.int .u32 1555081692), .lit (.int .u32 1996064986), .lit (.int .u32 2554220882), .lit (.int .u32 2821834349), .lit (.int .u32 2952996808), .lit (.int .u32 3210313671), .lit (.int .u32 3336571891), .lit (.int .u32 3584528711), .lit (.int .u32 113926993), .lit (.int .u32 338241895), .lit (.int .u32 666307205), .lit (.int .u32 773529912), .lit (.int .u32 1294757372), .lit (.int .u32 1396182291), .lit (.int .u32 1695183700), .lit (.int .u32 1986661051), .lit (.int .u32 2177026350), .lit (.int .u32 2456956037), .lit (.int .u32 2730485921), .lit (.int .u32 2820302411), .lit (.int .u32 3259730800), .lit (.int .u32 3345764771), .lit (.int .u32 3516065817), .lit (.int .u32 3600352804), .lit (.int .u32 4094571909), .lit (.int .u32 275423344), .lit (.int .u32 430227734), .lit (.int .u32 506948616), .lit (.int .u32 659060556), .lit (.int .u32 883997877), .lit (.int .u32 958139571), .lit (.int .u32 1322822218), .lit (.int .u32 1537002063), .lit (.int .u32 1747873779), .lit (.int .u32 1955562222), .lit (.int .u32 2024104815), .lit (.int .u32 2227730452), .lit (.int .u32 2361852424), .lit (.int .u32 2428436474), .lit (.int .u32 2756734187), .lit (.int .u32 3204031479), .lit (.int .u32 3329325298)]

/-- 'traveldoclaw26.TerminalchainStarts': WHATEVER THE INPUT: true; the input reads as it did. -/
def terminalchainStartsSpec : ChangeSpec := { name := "terminalchainStarts", fn := fun _ => fun
  | [d1, d2] => { results := [.lit (.bool true)], args := [d1, d2] }
  | _ => none }
def terminalchainStartsRow : OpenClaim := { program := "ytkjplpmogfmhkaagreatdoor", sum := "626297051b437a7ab01bfce5fc271de31ddc030bb720ef5c51481c5a5269cc3e", func := "traveldoc/traveldoclaw26.TerminalchainStarts", spec := "terminalchainStarts", unfollowed := true, recurses := true, named := ["traveldoc/traveldocref04.constants", "traveldoc/digest.constants"], apart := false, laid := [("traveldoc/traveldocref04.constants", laid_traveldoc_traveldocref04_constants), ("traveldoc/digest.constants", laid_traveldoc_digest_constants)] }
def TerminalchainStartsSaid : Prop := terminalchainStartsRow.holds Tryz.pinned (OpenSpec.ofChange terminalchainStartsSpec)

/-- ITS FALSE NEIGHBOUR: 'it returns false'. Refute it at one input. -/
def terminalchainStartsWrong : ChangeSpec := { name := "terminalchainStarts", fn := fun _ => fun
  | [d1, d2] => { results := [.lit (.bool false)], args := [d1, d2] }
  | _ => none }
def TerminalchainStartsWrongFalsely : Prop := terminalchainStartsRow.holds Tryz.pinned (OpenSpec.ofChange terminalchainStartsWrong)

/-- 'traveldoclaw26.TerminalchainImports': WHATEVER THE INPUT: true; the input reads as it did. -/
def terminalchainImportsSpec : ChangeSpec := { name := "terminalchainImports", fn := fun _ => fun
  | [d1, d2, d3] => { results := [.lit (.bool true)], args := [d1, d2, d3] }
  | _ => none }
def terminalchainImportsRow : OpenClaim := { program := "ytkjplpmogfmhkaagreatdoor", sum := "626297051b437a7ab01bfce5fc271de31ddc030bb720ef5c51481c5a5269cc3e", func := "traveldoc/traveldoclaw26.TerminalchainImports", spec := "terminalchainImports", unfollowed := true, recurses := true, named := ["traveldoc/traveldocref04.constants", "traveldoc/digest.constants"], apart := false, laid := [("traveldoc/traveldocref04.constants", laid_traveldoc_traveldocref04_constants), ("traveldoc/digest.constants", laid_traveldoc_digest_constants)] }
def TerminalchainImportsSaid : Prop := terminalchainImportsRow.holds Tryz.pinned (OpenSpec.ofChange terminalchainImportsSpec)

/-- ITS FALSE NEIGHBOUR: 'it returns false'. Refute it at one input. -/
def terminalchainImportsWrong : ChangeSpec := { name := "terminalchainImports", fn := fun _ => fun
  | [d1, d2, d3] => { results := [.lit (.bool false)], args := [d1, d2, d3] }
  | _ => none }
def TerminalchainImportsWrongFalsely : Prop := terminalchainImportsRow.holds Tryz.pinned (OpenSpec.ofChange terminalchainImportsWrong)

/-- 'traveldoclaw26.TerminalchainPaths': WHATEVER THE INPUT: true; the input reads as it did. -/
def terminalchainPathsSpec : ChangeSpec := { name := "terminalchainPaths", fn := fun _ => fun
  | [d1, d2, d3, d4] => { results := [.lit (.bool true)], args := [d1, d2, d3, d4] }
  | _ => none }
def terminalchainPathsRow : OpenClaim := { program := "ytkjplpmogfmhkaagreatdoor", sum := "626297051b437a7ab01bfce5fc271de31ddc030bb720ef5c51481c5a5269cc3e", func := "traveldoc/traveldoclaw26.TerminalchainPaths", spec := "terminalchainPaths", unfollowed := true, recurses := true, named := ["traveldoc/traveldocref04.constants", "traveldoc/digest.constants"], apart := false, laid := [("traveldoc/traveldocref04.constants", laid_traveldoc_traveldocref04_constants), ("traveldoc/digest.constants", laid_traveldoc_digest_constants)] }
def TerminalchainPathsSaid : Prop := terminalchainPathsRow.holds Tryz.pinned (OpenSpec.ofChange terminalchainPathsSpec)

/-- ITS FALSE NEIGHBOUR: 'it returns false'. Refute it at one input. -/
def terminalchainPathsWrong : ChangeSpec := { name := "terminalchainPaths", fn := fun _ => fun
  | [d1, d2, d3, d4] => { results := [.lit (.bool false)], args := [d1, d2, d3, d4] }
  | _ => none }
def TerminalchainPathsWrongFalsely : Prop := terminalchainPathsRow.holds Tryz.pinned (OpenSpec.ofChange terminalchainPathsWrong)

/-- 'traveldoclaw26.TerminalchainRights': WHATEVER THE INPUT: true; the input reads as it did. -/
def terminalchainRightsSpec : ChangeSpec := { name := "terminalchainRights", fn := fun _ => fun
  | [d1, d2] => { results := [.lit (.bool true)], args := [d1, d2] }
  | _ => none }
def terminalchainRightsRow : OpenClaim := { program := "ytkjplpmogfmhkaagreatdoor", sum := "626297051b437a7ab01bfce5fc271de31ddc030bb720ef5c51481c5a5269cc3e", func := "traveldoc/traveldoclaw26.TerminalchainRights", spec := "terminalchainRights", unfollowed := true, recurses := true, named := ["traveldoc/traveldocref04.constants", "traveldoc/digest.constants"], apart := false, laid := [("traveldoc/traveldocref04.constants", laid_traveldoc_traveldocref04_constants), ("traveldoc/digest.constants", laid_traveldoc_digest_constants)] }
def TerminalchainRightsSaid : Prop := terminalchainRightsRow.holds Tryz.pinned (OpenSpec.ofChange terminalchainRightsSpec)

/-- ITS FALSE NEIGHBOUR: 'it returns false'. Refute it at one input. -/
def terminalchainRightsWrong : ChangeSpec := { name := "terminalchainRights", fn := fun _ => fun
  | [d1, d2] => { results := [.lit (.bool false)], args := [d1, d2] }
  | _ => none }
def TerminalchainRightsWrongFalsely : Prop := terminalchainRightsRow.holds Tryz.pinned (OpenSpec.ofChange terminalchainRightsWrong)

/-- 'traveldoclaw30.NationalchainProves': WHATEVER THE INPUT: true; the input reads as it did. -/
def nationalchainProvesSpec : ChangeSpec := { name := "nationalchainProves", fn := fun _ => fun
  | [d1, d2] => { results := [.lit (.bool true)], args := [d1, d2] }
  | _ => none }
def nationalchainProvesRow : OpenClaim := { program := "ytkjplpmogfmhkaagreatdoor", sum := "626297051b437a7ab01bfce5fc271de31ddc030bb720ef5c51481c5a5269cc3e", func := "traveldoc/traveldoclaw30.NationalchainProves", spec := "nationalchainProves", unfollowed := true, recurses := true, named := ["traveldoc/traveldocref04.constants", "traveldoc/digest.constants"], apart := false, laid := [("traveldoc/traveldocref04.constants", laid_traveldoc_traveldocref04_constants), ("traveldoc/digest.constants", laid_traveldoc_digest_constants)] }
def NationalchainProvesSaid : Prop := nationalchainProvesRow.holds Tryz.pinned (OpenSpec.ofChange nationalchainProvesSpec)

/-- ITS FALSE NEIGHBOUR: 'it returns false'. Refute it at one input. -/
def nationalchainProvesWrong : ChangeSpec := { name := "nationalchainProves", fn := fun _ => fun
  | [d1, d2] => { results := [.lit (.bool false)], args := [d1, d2] }
  | _ => none }
def NationalchainProvesWrongFalsely : Prop := nationalchainProvesRow.holds Tryz.pinned (OpenSpec.ofChange nationalchainProvesWrong)

/-- 'traveldoclaw30.NationalchainMade': WHATEVER THE INPUT: true; the input reads as it did. -/
def nationalchainMadeSpec : ChangeSpec := { name := "nationalchainMade", fn := fun _ => fun
  | [d1, d2, d3, d4, d5] => { results := [.lit (.bool true)], args := [d1, d2, d3, d4, d5] }
  | _ => none }
def nationalchainMadeRow : OpenClaim := { program := "ytkjplpmogfmhkaagreatdoor", sum := "626297051b437a7ab01bfce5fc271de31ddc030bb720ef5c51481c5a5269cc3e", func := "traveldoc/traveldoclaw30.NationalchainMade", spec := "nationalchainMade", unfollowed := true, recurses := true, named := ["traveldoc/traveldocref04.constants", "traveldoc/digest.constants"], apart := false, laid := [("traveldoc/traveldocref04.constants", laid_traveldoc_traveldocref04_constants), ("traveldoc/digest.constants", laid_traveldoc_digest_constants)] }
def NationalchainMadeSaid : Prop := nationalchainMadeRow.holds Tryz.pinned (OpenSpec.ofChange nationalchainMadeSpec)

/-- ITS FALSE NEIGHBOUR: 'it returns false'. Refute it at one input. -/
def nationalchainMadeWrong : ChangeSpec := { name := "nationalchainMade", fn := fun _ => fun
  | [d1, d2, d3, d4, d5] => { results := [.lit (.bool false)], args := [d1, d2, d3, d4, d5] }
  | _ => none }
def NationalchainMadeWrongFalsely : Prop := nationalchainMadeRow.holds Tryz.pinned (OpenSpec.ofChange nationalchainMadeWrong)

/-- 'traveldoclaw30.NationalchainGrows': WHATEVER THE INPUT: true; the input reads as it did. -/
def nationalchainGrowsSpec : ChangeSpec := { name := "nationalchainGrows", fn := fun _ => fun
  | [d1, d2, d3] => { results := [.lit (.bool true)], args := [d1, d2, d3] }
  | _ => none }
def nationalchainGrowsRow : OpenClaim := { program := "ytkjplpmogfmhkaagreatdoor", sum := "626297051b437a7ab01bfce5fc271de31ddc030bb720ef5c51481c5a5269cc3e", func := "traveldoc/traveldoclaw30.NationalchainGrows", spec := "nationalchainGrows", unfollowed := true, recurses := true, named := ["traveldoc/traveldocref04.constants", "traveldoc/digest.constants"], apart := false, laid := [("traveldoc/traveldocref04.constants", laid_traveldoc_traveldocref04_constants), ("traveldoc/digest.constants", laid_traveldoc_digest_constants)] }
def NationalchainGrowsSaid : Prop := nationalchainGrowsRow.holds Tryz.pinned (OpenSpec.ofChange nationalchainGrowsSpec)

/-- ITS FALSE NEIGHBOUR: 'it returns false'. Refute it at one input. -/
def nationalchainGrowsWrong : ChangeSpec := { name := "nationalchainGrows", fn := fun _ => fun
  | [d1, d2, d3] => { results := [.lit (.bool false)], args := [d1, d2, d3] }
  | _ => none }
def NationalchainGrowsWrongFalsely : Prop := nationalchainGrowsRow.holds Tryz.pinned (OpenSpec.ofChange nationalchainGrowsWrong)

/-- 'traveldoclaw31.MasterlistMade': WHATEVER THE INPUT: true; the input reads as it did. -/
def masterlistMadeSpec : ChangeSpec := { name := "masterlistMade", fn := fun _ => fun
  | [d1, d2, d3, d4, d5] => { results := [.lit (.bool true)], args := [d1, d2, d3, d4, d5] }
  | _ => none }
def masterlistMadeRow : OpenClaim := { program := "ytkjplpmogfmhkaagreatdoor", sum := "626297051b437a7ab01bfce5fc271de31ddc030bb720ef5c51481c5a5269cc3e", func := "traveldoc/traveldoclaw31.MasterlistMade", spec := "masterlistMade", unfollowed := true, recurses := true, named := ["traveldoc/traveldocref04.constants", "traveldoc/digest.constants"], apart := false, laid := [("traveldoc/traveldocref04.constants", laid_traveldoc_traveldocref04_constants), ("traveldoc/digest.constants", laid_traveldoc_digest_constants)] }
def MasterlistMadeSaid : Prop := masterlistMadeRow.holds Tryz.pinned (OpenSpec.ofChange masterlistMadeSpec)

/-- ITS FALSE NEIGHBOUR: 'it returns false'. Refute it at one input. -/
def masterlistMadeWrong : ChangeSpec := { name := "masterlistMade", fn := fun _ => fun
  | [d1, d2, d3, d4, d5] => { results := [.lit (.bool false)], args := [d1, d2, d3, d4, d5] }
  | _ => none }
def MasterlistMadeWrongFalsely : Prop := masterlistMadeRow.holds Tryz.pinned (OpenSpec.ofChange masterlistMadeWrong)

/-- 'traveldoclaw31.MasterlistRaw': WHATEVER THE INPUT: true; the input reads as it did. -/
def masterlistRawSpec : ChangeSpec := { name := "masterlistRaw", fn := fun _ => fun
  | [d1, d2, d3, d4] => { results := [.lit (.bool true)], args := [d1, d2, d3, d4] }
  | _ => none }
def masterlistRawRow : OpenClaim := { program := "ytkjplpmogfmhkaagreatdoor", sum := "626297051b437a7ab01bfce5fc271de31ddc030bb720ef5c51481c5a5269cc3e", func := "traveldoc/traveldoclaw31.MasterlistRaw", spec := "masterlistRaw", unfollowed := true, recurses := true, named := ["traveldoc/traveldocref04.constants", "traveldoc/digest.constants"], apart := false, laid := [("traveldoc/traveldocref04.constants", laid_traveldoc_traveldocref04_constants), ("traveldoc/digest.constants", laid_traveldoc_digest_constants)] }
def MasterlistRawSaid : Prop := masterlistRawRow.holds Tryz.pinned (OpenSpec.ofChange masterlistRawSpec)

/-- ITS FALSE NEIGHBOUR: 'it returns false'. Refute it at one input. -/
def masterlistRawWrong : ChangeSpec := { name := "masterlistRaw", fn := fun _ => fun
  | [d1, d2, d3, d4] => { results := [.lit (.bool false)], args := [d1, d2, d3, d4] }
  | _ => none }
def MasterlistRawWrongFalsely : Prop := masterlistRawRow.holds Tryz.pinned (OpenSpec.ofChange masterlistRawWrong)

/-- 'traveldoclaw31.MasterlistNewer': WHATEVER THE INPUT: true; the input reads as it did. -/
def masterlistNewerSpec : ChangeSpec := { name := "masterlistNewer", fn := fun _ => fun
  | [d1, d2, d3] => { results := [.lit (.bool true)], args := [d1, d2, d3] }
  | _ => none }
def masterlistNewerRow : OpenClaim := { program := "ytkjplpmogfmhkaagreatdoor", sum := "626297051b437a7ab01bfce5fc271de31ddc030bb720ef5c51481c5a5269cc3e", func := "traveldoc/traveldoclaw31.MasterlistNewer", spec := "masterlistNewer", unfollowed := true, recurses := true, named := ["traveldoc/traveldocref04.constants", "traveldoc/digest.constants"], apart := false, laid := [("traveldoc/traveldocref04.constants", laid_traveldoc_traveldocref04_constants), ("traveldoc/digest.constants", laid_traveldoc_digest_constants)] }
def MasterlistNewerSaid : Prop := masterlistNewerRow.holds Tryz.pinned (OpenSpec.ofChange masterlistNewerSpec)

/-- ITS FALSE NEIGHBOUR: 'it returns false'. Refute it at one input. -/
def masterlistNewerWrong : ChangeSpec := { name := "masterlistNewer", fn := fun _ => fun
  | [d1, d2, d3] => { results := [.lit (.bool false)], args := [d1, d2, d3] }
  | _ => none }
def MasterlistNewerWrongFalsely : Prop := masterlistNewerRow.holds Tryz.pinned (OpenSpec.ofChange masterlistNewerWrong)

/-- 'traveldoclaw32.RevocationMade': WHATEVER THE INPUT: true; the input reads as it did. -/
def revocationMadeSpec : ChangeSpec := { name := "revocationMade", fn := fun _ => fun
  | [d1, d2, d3, d4, d5, d6] => { results := [.lit (.bool true)], args := [d1, d2, d3, d4, d5, d6] }
  | _ => none }
def revocationMadeRow : OpenClaim := { program := "ytkjplpmogfmhkaagreatdoor", sum := "626297051b437a7ab01bfce5fc271de31ddc030bb720ef5c51481c5a5269cc3e", func := "traveldoc/traveldoclaw32.RevocationMade", spec := "revocationMade", unfollowed := true, recurses := true, named := ["traveldoc/traveldocref04.constants", "traveldoc/digest.constants"], apart := false, laid := [("traveldoc/traveldocref04.constants", laid_traveldoc_traveldocref04_constants), ("traveldoc/digest.constants", laid_traveldoc_digest_constants)] }
def RevocationMadeSaid : Prop := revocationMadeRow.holds Tryz.pinned (OpenSpec.ofChange revocationMadeSpec)

/-- ITS FALSE NEIGHBOUR: 'it returns false'. Refute it at one input. -/
def revocationMadeWrong : ChangeSpec := { name := "revocationMade", fn := fun _ => fun
  | [d1, d2, d3, d4, d5, d6] => { results := [.lit (.bool false)], args := [d1, d2, d3, d4, d5, d6] }
  | _ => none }
def RevocationMadeWrongFalsely : Prop := revocationMadeRow.holds Tryz.pinned (OpenSpec.ofChange revocationMadeWrong)

/-- 'traveldoclaw32.RevocationNewest': WHATEVER THE INPUT: true; the input reads as it did. -/
def revocationNewestSpec : ChangeSpec := { name := "revocationNewest", fn := fun _ => fun
  | [d1, d2] => { results := [.lit (.bool true)], args := [d1, d2] }
  | _ => none }
def revocationNewestRow : OpenClaim := { program := "ytkjplpmogfmhkaagreatdoor", sum := "626297051b437a7ab01bfce5fc271de31ddc030bb720ef5c51481c5a5269cc3e", func := "traveldoc/traveldoclaw32.RevocationNewest", spec := "revocationNewest", unfollowed := true, recurses := true, named := ["traveldoc/traveldocref04.constants", "traveldoc/digest.constants"], apart := false, laid := [("traveldoc/traveldocref04.constants", laid_traveldoc_traveldocref04_constants), ("traveldoc/digest.constants", laid_traveldoc_digest_constants)] }
def RevocationNewestSaid : Prop := revocationNewestRow.holds Tryz.pinned (OpenSpec.ofChange revocationNewestSpec)

/-- ITS FALSE NEIGHBOUR: 'it returns false'. Refute it at one input. -/
def revocationNewestWrong : ChangeSpec := { name := "revocationNewest", fn := fun _ => fun
  | [d1, d2] => { results := [.lit (.bool false)], args := [d1, d2] }
  | _ => none }
def RevocationNewestWrongFalsely : Prop := revocationNewestRow.holds Tryz.pinned (OpenSpec.ofChange revocationNewestWrong)

/-- 'traveldoclaw32.RevocationRaw': WHATEVER THE INPUT: true; the input reads as it did. -/
def revocationRawSpec : ChangeSpec := { name := "revocationRaw", fn := fun _ => fun
  | [d1, d2, d3, d4, d5] => { results := [.lit (.bool true)], args := [d1, d2, d3, d4, d5] }
  | _ => none }
def revocationRawRow : OpenClaim := { program := "ytkjplpmogfmhkaagreatdoor", sum := "626297051b437a7ab01bfce5fc271de31ddc030bb720ef5c51481c5a5269cc3e", func := "traveldoc/traveldoclaw32.RevocationRaw", spec := "revocationRaw", unfollowed := true, recurses := true, named := ["traveldoc/traveldocref04.constants", "traveldoc/digest.constants"], apart := false, laid := [("traveldoc/traveldocref04.constants", laid_traveldoc_traveldocref04_constants), ("traveldoc/digest.constants", laid_traveldoc_digest_constants)] }
def RevocationRawSaid : Prop := revocationRawRow.holds Tryz.pinned (OpenSpec.ofChange revocationRawSpec)

/-- ITS FALSE NEIGHBOUR: 'it returns false'. Refute it at one input. -/
def revocationRawWrong : ChangeSpec := { name := "revocationRaw", fn := fun _ => fun
  | [d1, d2, d3, d4, d5] => { results := [.lit (.bool false)], args := [d1, d2, d3, d4, d5] }
  | _ => none }
def RevocationRawWrongFalsely : Prop := revocationRawRow.holds Tryz.pinned (OpenSpec.ofChange revocationRawWrong)

/-- 'traveldoclaw33.DeviationMade': WHATEVER THE INPUT: true; the input reads as it did. -/
def deviationMadeSpec : ChangeSpec := { name := "deviationMade", fn := fun _ => fun
  | [d1, d2, d3, d4, d5, d6] => { results := [.lit (.bool true)], args := [d1, d2, d3, d4, d5, d6] }
  | _ => none }
def deviationMadeRow : OpenClaim := { program := "ytkjplpmogfmhkaagreatdoor", sum := "626297051b437a7ab01bfce5fc271de31ddc030bb720ef5c51481c5a5269cc3e", func := "traveldoc/traveldoclaw33.DeviationMade", spec := "deviationMade", unfollowed := true, recurses := true, named := ["traveldoc/traveldocref04.constants", "traveldoc/digest.constants"], apart := false, laid := [("traveldoc/traveldocref04.constants", laid_traveldoc_traveldocref04_constants), ("traveldoc/digest.constants", laid_traveldoc_digest_constants)] }
def DeviationMadeSaid : Prop := deviationMadeRow.holds Tryz.pinned (OpenSpec.ofChange deviationMadeSpec)

/-- ITS FALSE NEIGHBOUR: 'it returns false'. Refute it at one input. -/
def deviationMadeWrong : ChangeSpec := { name := "deviationMade", fn := fun _ => fun
  | [d1, d2, d3, d4, d5, d6] => { results := [.lit (.bool false)], args := [d1, d2, d3, d4, d5, d6] }
  | _ => none }
def DeviationMadeWrongFalsely : Prop := deviationMadeRow.holds Tryz.pinned (OpenSpec.ofChange deviationMadeWrong)

/-- 'traveldoclaw33.DeviationRaw': WHATEVER THE INPUT: true; the input reads as it did. -/
def deviationRawSpec : ChangeSpec := { name := "deviationRaw", fn := fun _ => fun
  | [d1, d2, d3, d4, d5] => { results := [.lit (.bool true)], args := [d1, d2, d3, d4, d5] }
  | _ => none }
def deviationRawRow : OpenClaim := { program := "ytkjplpmogfmhkaagreatdoor", sum := "626297051b437a7ab01bfce5fc271de31ddc030bb720ef5c51481c5a5269cc3e", func := "traveldoc/traveldoclaw33.DeviationRaw", spec := "deviationRaw", unfollowed := true, recurses := true, named := ["traveldoc/traveldocref04.constants", "traveldoc/digest.constants"], apart := false, laid := [("traveldoc/traveldocref04.constants", laid_traveldoc_traveldocref04_constants), ("traveldoc/digest.constants", laid_traveldoc_digest_constants)] }
def DeviationRawSaid : Prop := deviationRawRow.holds Tryz.pinned (OpenSpec.ofChange deviationRawSpec)

/-- ITS FALSE NEIGHBOUR: 'it returns false'. Refute it at one input. -/
def deviationRawWrong : ChangeSpec := { name := "deviationRaw", fn := fun _ => fun
  | [d1, d2, d3, d4, d5] => { results := [.lit (.bool false)], args := [d1, d2, d3, d4, d5] }
  | _ => none }
def DeviationRawWrongFalsely : Prop := deviationRawRow.holds Tryz.pinned (OpenSpec.ofChange deviationRawWrong)

/-- 'traveldoclaw33.DeviationOwn': WHATEVER THE INPUT: true; the input reads as it did. -/
def deviationOwnSpec : ChangeSpec := { name := "deviationOwn", fn := fun _ => fun
  | [d1, d2, d3, d4] => { results := [.lit (.bool true)], args := [d1, d2, d3, d4] }
  | _ => none }
def deviationOwnRow : OpenClaim := { program := "ytkjplpmogfmhkaagreatdoor", sum := "626297051b437a7ab01bfce5fc271de31ddc030bb720ef5c51481c5a5269cc3e", func := "traveldoc/traveldoclaw33.DeviationOwn", spec := "deviationOwn", unfollowed := true, recurses := true, named := ["traveldoc/traveldocref04.constants", "traveldoc/digest.constants"], apart := false, laid := [("traveldoc/traveldocref04.constants", laid_traveldoc_traveldocref04_constants), ("traveldoc/digest.constants", laid_traveldoc_digest_constants)] }
def DeviationOwnSaid : Prop := deviationOwnRow.holds Tryz.pinned (OpenSpec.ofChange deviationOwnSpec)

/-- ITS FALSE NEIGHBOUR: 'it returns false'. Refute it at one input. -/
def deviationOwnWrong : ChangeSpec := { name := "deviationOwn", fn := fun _ => fun
  | [d1, d2, d3, d4] => { results := [.lit (.bool false)], args := [d1, d2, d3, d4] }
  | _ => none }
def DeviationOwnWrongFalsely : Prop := deviationOwnRow.holds Tryz.pinned (OpenSpec.ofChange deviationOwnWrong)

/- THE SECOND FORM. 'bulk': how many values and letters a reading holds, each counted each time it is reached (what is shared counts as often as it is met; a slice's spare places count too). A statement '..UptoSaid' is the law's where the arguments, and the package variables that the reading takes, are together of bulk at most 1048576: NARROWER than '..Said'. Prove '..Said' where nothing that the law and all that it calls make is longer than what came in: it says more and counts as full. Else prove '..UptoSaid'. A law counts once. -/
mutual
def uptoBulk {H : Type} : DataW H → Nat
  | .lit (.string bytes) => bytes.length + 1
  | .lit _ => 1
  | .nil => 1
  | .ptr d => uptoBulk d + 1
  | .slice elems spare => uptoBulkAll elems + uptoBulkAll spare + 1
  | .agg parts => uptoBulkAll parts + 1
  | .iface _ d => uptoBulk d + 1
  | .map entries => uptoBulkEntries entries + 1
  | .held _ => 1
def uptoBulkAll {H : Type} : List (DataW H) → Nat
  | [] => 0
  | d :: r => uptoBulk d + uptoBulkAll r
def uptoBulkEntries {H : Type} : List (Lit × DataW H) → Nat
  | [] => 0
  | x :: r => uptoBulkEntry x + uptoBulkEntries r
def uptoBulkEntry {H : Type} : Lit × DataW H → Nat
  | (.string bytes, d) => bytes.length + uptoBulk d + 1
  | (_, d) => uptoBulk d + 1
 end
def uptoSmall : (H : Type) → List (DataW H) → Bool := fun _ ds => decide (uptoBulkAll ds ≤ 1048576)
def OpenSpec.upto (s : _root_.Go.ChangeSpec) : _root_.Go.OpenSpec := { _root_.Go.OpenSpec.ofChange s with cond := some uptoSmall }

/-- 'traveldoclaw26.TerminalchainStarts', WHERE WHAT IT READS IS OF BULK AT MOST 1048576: true; the input reads as it did. -/
def terminalchainStartsUptoRow : OpenClaim := { program := "ytkjplpmogfmhkaagreatdoor", sum := "626297051b437a7ab01bfce5fc271de31ddc030bb720ef5c51481c5a5269cc3e", func := "traveldoc/traveldoclaw26.TerminalchainStarts", spec := "terminalchainStarts", unfollowed := true, recurses := true, named := ["traveldoc/traveldocref04.constants", "traveldoc/digest.constants"], apart := false, laid := [("traveldoc/traveldocref04.constants", laid_traveldoc_traveldocref04_constants), ("traveldoc/digest.constants", laid_traveldoc_digest_constants)], narrowed := true }
def TerminalchainStartsUptoSaid : Prop := terminalchainStartsUptoRow.holds Tryz.pinned (OpenSpec.upto terminalchainStartsSpec)

/-- 'traveldoclaw26.TerminalchainImports', WHERE WHAT IT READS IS OF BULK AT MOST 1048576: true; the input reads as it did. -/
def terminalchainImportsUptoRow : OpenClaim := { program := "ytkjplpmogfmhkaagreatdoor", sum := "626297051b437a7ab01bfce5fc271de31ddc030bb720ef5c51481c5a5269cc3e", func := "traveldoc/traveldoclaw26.TerminalchainImports", spec := "terminalchainImports", unfollowed := true, recurses := true, named := ["traveldoc/traveldocref04.constants", "traveldoc/digest.constants"], apart := false, laid := [("traveldoc/traveldocref04.constants", laid_traveldoc_traveldocref04_constants), ("traveldoc/digest.constants", laid_traveldoc_digest_constants)], narrowed := true }
def TerminalchainImportsUptoSaid : Prop := terminalchainImportsUptoRow.holds Tryz.pinned (OpenSpec.upto terminalchainImportsSpec)

/-- 'traveldoclaw26.TerminalchainPaths', WHERE WHAT IT READS IS OF BULK AT MOST 1048576: true; the input reads as it did. -/
def terminalchainPathsUptoRow : OpenClaim := { program := "ytkjplpmogfmhkaagreatdoor", sum := "626297051b437a7ab01bfce5fc271de31ddc030bb720ef5c51481c5a5269cc3e", func := "traveldoc/traveldoclaw26.TerminalchainPaths", spec := "terminalchainPaths", unfollowed := true, recurses := true, named := ["traveldoc/traveldocref04.constants", "traveldoc/digest.constants"], apart := false, laid := [("traveldoc/traveldocref04.constants", laid_traveldoc_traveldocref04_constants), ("traveldoc/digest.constants", laid_traveldoc_digest_constants)], narrowed := true }
def TerminalchainPathsUptoSaid : Prop := terminalchainPathsUptoRow.holds Tryz.pinned (OpenSpec.upto terminalchainPathsSpec)

/-- 'traveldoclaw26.TerminalchainRights', WHERE WHAT IT READS IS OF BULK AT MOST 1048576: true; the input reads as it did. -/
def terminalchainRightsUptoRow : OpenClaim := { program := "ytkjplpmogfmhkaagreatdoor", sum := "626297051b437a7ab01bfce5fc271de31ddc030bb720ef5c51481c5a5269cc3e", func := "traveldoc/traveldoclaw26.TerminalchainRights", spec := "terminalchainRights", unfollowed := true, recurses := true, named := ["traveldoc/traveldocref04.constants", "traveldoc/digest.constants"], apart := false, laid := [("traveldoc/traveldocref04.constants", laid_traveldoc_traveldocref04_constants), ("traveldoc/digest.constants", laid_traveldoc_digest_constants)], narrowed := true }
def TerminalchainRightsUptoSaid : Prop := terminalchainRightsUptoRow.holds Tryz.pinned (OpenSpec.upto terminalchainRightsSpec)

/-- 'traveldoclaw30.NationalchainProves', WHERE WHAT IT READS IS OF BULK AT MOST 1048576: true; the input reads as it did. -/
def nationalchainProvesUptoRow : OpenClaim := { program := "ytkjplpmogfmhkaagreatdoor", sum := "626297051b437a7ab01bfce5fc271de31ddc030bb720ef5c51481c5a5269cc3e", func := "traveldoc/traveldoclaw30.NationalchainProves", spec := "nationalchainProves", unfollowed := true, recurses := true, named := ["traveldoc/traveldocref04.constants", "traveldoc/digest.constants"], apart := false, laid := [("traveldoc/traveldocref04.constants", laid_traveldoc_traveldocref04_constants), ("traveldoc/digest.constants", laid_traveldoc_digest_constants)], narrowed := true }
def NationalchainProvesUptoSaid : Prop := nationalchainProvesUptoRow.holds Tryz.pinned (OpenSpec.upto nationalchainProvesSpec)

/-- 'traveldoclaw30.NationalchainMade', WHERE WHAT IT READS IS OF BULK AT MOST 1048576: true; the input reads as it did. -/
def nationalchainMadeUptoRow : OpenClaim := { program := "ytkjplpmogfmhkaagreatdoor", sum := "626297051b437a7ab01bfce5fc271de31ddc030bb720ef5c51481c5a5269cc3e", func := "traveldoc/traveldoclaw30.NationalchainMade", spec := "nationalchainMade", unfollowed := true, recurses := true, named := ["traveldoc/traveldocref04.constants", "traveldoc/digest.constants"], apart := false, laid := [("traveldoc/traveldocref04.constants", laid_traveldoc_traveldocref04_constants), ("traveldoc/digest.constants", laid_traveldoc_digest_constants)], narrowed := true }
def NationalchainMadeUptoSaid : Prop := nationalchainMadeUptoRow.holds Tryz.pinned (OpenSpec.upto nationalchainMadeSpec)

/-- 'traveldoclaw30.NationalchainGrows', WHERE WHAT IT READS IS OF BULK AT MOST 1048576: true; the input reads as it did. -/
def nationalchainGrowsUptoRow : OpenClaim := { program := "ytkjplpmogfmhkaagreatdoor", sum := "626297051b437a7ab01bfce5fc271de31ddc030bb720ef5c51481c5a5269cc3e", func := "traveldoc/traveldoclaw30.NationalchainGrows", spec := "nationalchainGrows", unfollowed := true, recurses := true, named := ["traveldoc/traveldocref04.constants", "traveldoc/digest.constants"], apart := false, laid := [("traveldoc/traveldocref04.constants", laid_traveldoc_traveldocref04_constants), ("traveldoc/digest.constants", laid_traveldoc_digest_constants)], narrowed := true }
def NationalchainGrowsUptoSaid : Prop := nationalchainGrowsUptoRow.holds Tryz.pinned (OpenSpec.upto nationalchainGrowsSpec)

/-- 'traveldoclaw31.MasterlistMade', WHERE WHAT IT READS IS OF BULK AT MOST 1048576: true; the input reads as it did. -/
def masterlistMadeUptoRow : OpenClaim := { program := "ytkjplpmogfmhkaagreatdoor", sum := "626297051b437a7ab01bfce5fc271de31ddc030bb720ef5c51481c5a5269cc3e", func := "traveldoc/traveldoclaw31.MasterlistMade", spec := "masterlistMade", unfollowed := true, recurses := true, named := ["traveldoc/traveldocref04.constants", "traveldoc/digest.constants"], apart := false, laid := [("traveldoc/traveldocref04.constants", laid_traveldoc_traveldocref04_constants), ("traveldoc/digest.constants", laid_traveldoc_digest_constants)], narrowed := true }
def MasterlistMadeUptoSaid : Prop := masterlistMadeUptoRow.holds Tryz.pinned (OpenSpec.upto masterlistMadeSpec)

/-- 'traveldoclaw31.MasterlistRaw', WHERE WHAT IT READS IS OF BULK AT MOST 1048576: true; the input reads as it did. -/
def masterlistRawUptoRow : OpenClaim := { program := "ytkjplpmogfmhkaagreatdoor", sum := "626297051b437a7ab01bfce5fc271de31ddc030bb720ef5c51481c5a5269cc3e", func := "traveldoc/traveldoclaw31.MasterlistRaw", spec := "masterlistRaw", unfollowed := true, recurses := true, named := ["traveldoc/traveldocref04.constants", "traveldoc/digest.constants"], apart := false, laid := [("traveldoc/traveldocref04.constants", laid_traveldoc_traveldocref04_constants), ("traveldoc/digest.constants", laid_traveldoc_digest_constants)], narrowed := true }
def MasterlistRawUptoSaid : Prop := masterlistRawUptoRow.holds Tryz.pinned (OpenSpec.upto masterlistRawSpec)

/-- 'traveldoclaw31.MasterlistNewer', WHERE WHAT IT READS IS OF BULK AT MOST 1048576: true; the input reads as it did. -/
def masterlistNewerUptoRow : OpenClaim := { program := "ytkjplpmogfmhkaagreatdoor", sum := "626297051b437a7ab01bfce5fc271de31ddc030bb720ef5c51481c5a5269cc3e", func := "traveldoc/traveldoclaw31.MasterlistNewer", spec := "masterlistNewer", unfollowed := true, recurses := true, named := ["traveldoc/traveldocref04.constants", "traveldoc/digest.constants"], apart := false, laid := [("traveldoc/traveldocref04.constants", laid_traveldoc_traveldocref04_constants), ("traveldoc/digest.constants", laid_traveldoc_digest_constants)], narrowed := true }
def MasterlistNewerUptoSaid : Prop := masterlistNewerUptoRow.holds Tryz.pinned (OpenSpec.upto masterlistNewerSpec)

/-- 'traveldoclaw32.RevocationMade', WHERE WHAT IT READS IS OF BULK AT MOST 1048576: true; the input reads as it did. -/
def revocationMadeUptoRow : OpenClaim := { program := "ytkjplpmogfmhkaagreatdoor", sum := "626297051b437a7ab01bfce5fc271de31ddc030bb720ef5c51481c5a5269cc3e", func := "traveldoc/traveldoclaw32.RevocationMade", spec := "revocationMade", unfollowed := true, recurses := true, named := ["traveldoc/traveldocref04.constants", "traveldoc/digest.constants"], apart := false, laid := [("traveldoc/traveldocref04.constants", laid_traveldoc_traveldocref04_constants), ("traveldoc/digest.constants", laid_traveldoc_digest_constants)], narrowed := true }
def RevocationMadeUptoSaid : Prop := revocationMadeUptoRow.holds Tryz.pinned (OpenSpec.upto revocationMadeSpec)

/-- 'traveldoclaw32.RevocationNewest', WHERE WHAT IT READS IS OF BULK AT MOST 1048576: true; the input reads as it did. -/
def revocationNewestUptoRow : OpenClaim := { program := "ytkjplpmogfmhkaagreatdoor", sum := "626297051b437a7ab01bfce5fc271de31ddc030bb720ef5c51481c5a5269cc3e", func := "traveldoc/traveldoclaw32.RevocationNewest", spec := "revocationNewest", unfollowed := true, recurses := true, named := ["traveldoc/traveldocref04.constants", "traveldoc/digest.constants"], apart := false, laid := [("traveldoc/traveldocref04.constants", laid_traveldoc_traveldocref04_constants), ("traveldoc/digest.constants", laid_traveldoc_digest_constants)], narrowed := true }
def RevocationNewestUptoSaid : Prop := revocationNewestUptoRow.holds Tryz.pinned (OpenSpec.upto revocationNewestSpec)

/-- 'traveldoclaw32.RevocationRaw', WHERE WHAT IT READS IS OF BULK AT MOST 1048576: true; the input reads as it did. -/
def revocationRawUptoRow : OpenClaim := { program := "ytkjplpmogfmhkaagreatdoor", sum := "626297051b437a7ab01bfce5fc271de31ddc030bb720ef5c51481c5a5269cc3e", func := "traveldoc/traveldoclaw32.RevocationRaw", spec := "revocationRaw", unfollowed := true, recurses := true, named := ["traveldoc/traveldocref04.constants", "traveldoc/digest.constants"], apart := false, laid := [("traveldoc/traveldocref04.constants", laid_traveldoc_traveldocref04_constants), ("traveldoc/digest.constants", laid_traveldoc_digest_constants)], narrowed := true }
def RevocationRawUptoSaid : Prop := revocationRawUptoRow.holds Tryz.pinned (OpenSpec.upto revocationRawSpec)

/-- 'traveldoclaw33.DeviationMade', WHERE WHAT IT READS IS OF BULK AT MOST 1048576: true; the input reads as it did. -/
def deviationMadeUptoRow : OpenClaim := { program := "ytkjplpmogfmhkaagreatdoor", sum := "626297051b437a7ab01bfce5fc271de31ddc030bb720ef5c51481c5a5269cc3e", func := "traveldoc/traveldoclaw33.DeviationMade", spec := "deviationMade", unfollowed := true, recurses := true, named := ["traveldoc/traveldocref04.constants", "traveldoc/digest.constants"], apart := false, laid := [("traveldoc/traveldocref04.constants", laid_traveldoc_traveldocref04_constants), ("traveldoc/digest.constants", laid_traveldoc_digest_constants)], narrowed := true }
def DeviationMadeUptoSaid : Prop := deviationMadeUptoRow.holds Tryz.pinned (OpenSpec.upto deviationMadeSpec)

/-- 'traveldoclaw33.DeviationRaw', WHERE WHAT IT READS IS OF BULK AT MOST 1048576: true; the input reads as it did. -/
def deviationRawUptoRow : OpenClaim := { program := "ytkjplpmogfmhkaagreatdoor", sum := "626297051b437a7ab01bfce5fc271de31ddc030bb720ef5c51481c5a5269cc3e", func := "traveldoc/traveldoclaw33.DeviationRaw", spec := "deviationRaw", unfollowed := true, recurses := true, named := ["traveldoc/traveldocref04.constants", "traveldoc/digest.constants"], apart := false, laid := [("traveldoc/traveldocref04.constants", laid_traveldoc_traveldocref04_constants), ("traveldoc/digest.constants", laid_traveldoc_digest_constants)], narrowed := true }
def DeviationRawUptoSaid : Prop := deviationRawUptoRow.holds Tryz.pinned (OpenSpec.upto deviationRawSpec)

/-- 'traveldoclaw33.DeviationOwn', WHERE WHAT IT READS IS OF BULK AT MOST 1048576: true; the input reads as it did. -/
def deviationOwnUptoRow : OpenClaim := { program := "ytkjplpmogfmhkaagreatdoor", sum := "626297051b437a7ab01bfce5fc271de31ddc030bb720ef5c51481c5a5269cc3e", func := "traveldoc/traveldoclaw33.DeviationOwn", spec := "deviationOwn", unfollowed := true, recurses := true, named := ["traveldoc/traveldocref04.constants", "traveldoc/digest.constants"], apart := false, laid := [("traveldoc/traveldocref04.constants", laid_traveldoc_traveldocref04_constants), ("traveldoc/digest.constants", laid_traveldoc_digest_constants)], narrowed := true }
def DeviationOwnUptoSaid : Prop := deviationOwnUptoRow.holds Tryz.pinned (OpenSpec.upto deviationOwnSpec)

end Rows
end Go.Proofs.YtkjplpmogfmhkaaGreatDoor
