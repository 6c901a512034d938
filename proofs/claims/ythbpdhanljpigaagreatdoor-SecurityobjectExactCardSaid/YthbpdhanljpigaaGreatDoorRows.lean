/-
  NARROWER THAN 'FOR EVERY INPUT', by the rows' own cells (each row's printed sentence says how): SecurityobjectSigns: laid · SecurityobjectDiffers: laid · SecurityobjectExact: laid · SecurityobjectMade: laid · SecurityobjectProves: laid.
  DERIVED. THE GIVEN ROWS OF THIS SEAT. 5 by the template 'for every input the law returns true; each argument reads behind the call as it read before'; 0 by the template 'total and deterministic' (their statements: YthbpdhanljpigaaGreatDoorTotals.lean).
  GIVEN WITH THE SEED: the statements are not yours to turn. If you find one false, say at which input.
  Laid BY PROGRAM, IN A SANDBOX (cutbox-rows.mjs): the forced cells as the released guide's own fill.sh prints them over the translation e278cce56db2bd1a… (all of the seat's roots in one cut). By AI agents, Wed Nov 11 2026. No macro, syntax, notation, axiom, sorry.
-/
import Derived.Test.YthbpdhanljpigaaGreatDoorChecked
import GoSem.Claim
import GoSem.ClaimJoined
import GoSem.ClaimMapViews
import Derived.JoinedTies
import Derived.KernelRfl
namespace Go.Proofs.YthbpdhanljpigaaGreatDoor
/- THE CELL 'sum', in the pinned program and in every row, IS THE sha256 OF THE DUMP (.gsa) THAT YthbpdhanljpigaaGreatDoorProg.lean LOADS. Nothing in Lean hashes anything: it is a label: what it is worth is what the hold of that sum in a sandbox is worth. -/
noncomputable def Tryz.pinned : Pinned := { name := "ythbpdhanljpigaagreatdoor", sum := "e278cce56db2bd1a78b45eaac296ae2da63479eb616b04a12736d938e2352fe3", checked := Tryz.checked }
namespace Rows
def none {H : Type} : Left H := { results := [], args := [] }

/- WHAT THE LISTED PACKAGE-LEVEL VARIABLES READ AS WHEN THE CALL BEGINS. Each datum BY PROGRAM (the guide's laid-datum.mjs) off the statement by which the dump's own 'gosem.cut.vars' lays the variable. In a bare row this is a premise. The card (YthbpdhanljpigaaGreatDoorCards.lean) ties it to the program's text. -/
def laid_traveldoc_traveldocref04_constants {H : Type} : DataW H := .agg [.lit (.int .u32 1116352408), .lit (.int .u32 1899447441), .lit (.int .u32 3049323471), .lit (.int .u32 3921009573), .lit (.int .u32 961987163), .lit (.int .u32 1508970993), .lit (.int .u32 2453635748), .lit (.int .u32 2870763221), .lit (.int .u32 3624381080), .lit (.int .u32 310598401), .lit (.int .u32 607225278), .lit (.int .u32 1426881987), .lit (.int .u32 1925078388), .lit (.int .u32 2162078206), .lit (.int .u32 2614888103), .lit (.int .u32 3248222580), .lit (.int .u32 3835390401), .lit (.int .u32 4022224774), .lit (.int .u32 264347078), .lit (.int .u32 604807628), .lit (.int .u32 770255983), .lit (.int .u32 1249150122), .lit (.int .u32 1555081692), .lit (.int .u32 1996064986), .lit (.int .u32 2554220882), .lit (.int .u32 2821834349), .lit (.int .u32 2952996808), .lit (.int .u32 3210313671), .lit (.int .u32 3336571891), .lit (.int .u32 3584528711), .lit (.int .u32 113926993), .lit (.int .u32 338241895), .lit (.int .u32 666307205), .lit (.int .u32 773529912), .lit (.int .u32 1294757372), .lit (.int .u32 1396182291), .lit (.int .u32 1695183700), .lit (.int .u32 1986661051), .lit (.int .u32 2177026350), .lit (.int .u32 2456956037), .lit (.int .u32 2730485921), .lit (.int .u32 2820302411), .lit (.int .u32 3259730800), .lit (.int .u32 3345764771), .lit (.int .u32 3516065817), .lit (.int .u32 3600352804), .lit (.int .u32 4094571909), .lit (.int .u32 275423344), .lit (.int .u32 430227734), .lit (.int .u32 506948616), .lit (.int .u32 659060556), .lit (.int .u32 883997877), .lit (.int .u32 958139571), .lit (.int .u32 1322822218), .lit (.int .u32 1537002063), .lit (.int .u32 1747873779), .lit (.int .u32 1955562222), .lit (.int .u32 2024104815), .lit (.int .u32 2227730452), .lit (.int .u32 2361852424), .lit (.int .u32 2428436474), .lit (.int .u32 2756734187), .lit (.int .u32 3204031479), .lit (.int .u32 3329325298)]
def laid_traveldoc_traveldocref15_tags {H : Type} : DataW H := .agg [.lit (.int .i64 97), .lit (.int .i64 117), .lit (.int .i64 99), .lit (.int .i64 118), .lit (.int .i64 101), .lit (.int .i64 102), .lit (.int .i64 103), .lit (.int .i64 104), .lit (.int .i64 105), .lit (.int .i64 106), .lit (.int .i64 107), .lit (.int .i64 108), .lit (.int .i64 109), .lit (.int .i64 110), .lit (.int .i64 111), .lit (.int .i64 112), .lit (.int .i64 96), .lit (.int .i64 119)]
def laid_traveldoc_digest_constants {H : Type} : DataW H := .agg [.lit (.int .u32 1116352408), .lit (.int .u32 1899447441), .lit (.int .u32 3049323471), .lit (.int .u32 3921009573), .lit (.int .u32 961987163), .lit (.int .u32 1508970993), .lit (.int .u32 2453635748), .lit (.int .u32 2870763221), .lit (.int .u32 3624381080), .lit (.int .u32 310598401), .lit (.int .u32 607225278), .lit (.int .u32 1426881987), .lit (.int .u32 1925078388), .lit (.int .u32 2162078206), .lit (.int .u32 2614888103), .lit (.int .u32 3248222580), .lit (.int .u32 3835390401), .lit (.int .u32 4022224774), .lit (.int .u32 264347078), .lit (.int .u32 604807628), .lit (.int .u32 770255983), .lit (.int .u32 1249150122), .lit (.int .u32 1555081692), .lit (.int .u32 1996064986), .lit (.int .u32 2554220882), .lit (.int .u32 2821834349), .lit (.int .u32 2952996808), .lit (.int .u32 3210313671), .lit (.int .u32 3336571891), .lit (.int .u32 3584528711), .lit (.int .u32 113926993), .lit (.int .u32 338241895), .lit (.int .u32 666307205), .lit (.int .u32 773529912), .lit (.int .u32 1294757372), .lit (.int .u32 1396182291), .lit (.int .u32 1695183700), .lit (.int .u32 1986661051), .lit (.int .u32 2177026350), .lit (.int .u32 2456956037), .lit (.int .u32 2730485921), .lit (.int .u32 2820302411), .lit (.int .u32 3259730800), .lit (.int .u32 3345764771), .lit (.int .u32 3516065817), .lit (.int .u32 3600352804), .lit (.int .u32 4094571909), .lit (.int .u32 275423344), .lit (.int .u32 430227734), .lit (.int .u32 506948616), .lit (.int .u32 659060556), .lit (.int .u32 883997877), .lit (.int .u32 958139571), .lit (.int .u32 1322822218), .lit (.int .u32 1537002063), .lit (.int .u32 1747873779), .lit (.int .u32 1955562222), .lit (.int .u32 2024104815), .lit (.int .u32 2227730452), .lit (.int .u32 2361852424), .lit (.int .u32 2428436474), .lit (.int .u32 2756734187), .lit (.int .u32 3204031479), .lit (.int .u32 3329325298)]
def laid_traveldoc_datagroups_tags {H : Type} : DataW H := .agg [.lit (.int .i64 97), .lit (.int .i64 117), .lit (.int .i64 99), .lit (.int .i64 118), .lit (.int .i64 101), .lit (.int .i64 102), .lit (.int .i64 103), .lit (.int .i64 104), .lit (.int .i64 105), .lit (.int .i64 106), .lit (.int .i64 107), .lit (.int .i64 108), .lit (.int .i64 109), .lit (.int .i64 110), .lit (.int .i64 111), .lit (.int .i64 112), .lit (.int .i64 96), .lit (.int .i64 119)]

/-- 'traveldoclaw16.SecurityobjectSigns': WHATEVER THE INPUT: true; the input reads as it did. -/
def securityobjectSignsSpec : ChangeSpec := { name := "securityobjectSigns", fn := fun _ => fun
  | [d1, d2, d3] => { results := [.lit (.bool true)], args := [d1, d2, d3] }
  | _ => none }
def securityobjectSignsRow : OpenClaim := { program := "ythbpdhanljpigaagreatdoor", sum := "e278cce56db2bd1a78b45eaac296ae2da63479eb616b04a12736d938e2352fe3", func := "traveldoc/traveldoclaw16.SecurityobjectSigns", spec := "securityobjectSigns", inPlace := ["slices.overlaps[traveldoc/api.GroupHash]"], unfollowed := true, recurses := true, named := ["traveldoc/traveldocref15.tags", "traveldoc/datagroups.tags", "traveldoc/digest.constants", "traveldoc/traveldocref04.constants"], apart := false, laid := [("traveldoc/traveldocref04.constants", laid_traveldoc_traveldocref04_constants), ("traveldoc/traveldocref15.tags", laid_traveldoc_traveldocref15_tags), ("traveldoc/digest.constants", laid_traveldoc_digest_constants), ("traveldoc/datagroups.tags", laid_traveldoc_datagroups_tags)] }
def SecurityobjectSignsSaid : Prop := securityobjectSignsRow.holds Tryz.pinned (OpenSpec.ofChange securityobjectSignsSpec)

/-- ITS FALSE NEIGHBOUR: 'it returns false'. Refute it at one input. -/
def securityobjectSignsWrong : ChangeSpec := { name := "securityobjectSigns", fn := fun _ => fun
  | [d1, d2, d3] => { results := [.lit (.bool false)], args := [d1, d2, d3] }
  | _ => none }
def SecurityobjectSignsWrongFalsely : Prop := securityobjectSignsRow.holds Tryz.pinned (OpenSpec.ofChange securityobjectSignsWrong)

/-- 'traveldoclaw16.SecurityobjectDiffers': WHATEVER THE INPUT: true; the input reads as it did. -/
def securityobjectDiffersSpec : ChangeSpec := { name := "securityobjectDiffers", fn := fun _ => fun
  | [d1, d2] => { results := [.lit (.bool true)], args := [d1, d2] }
  | _ => none }
def securityobjectDiffersRow : OpenClaim := { program := "ythbpdhanljpigaagreatdoor", sum := "e278cce56db2bd1a78b45eaac296ae2da63479eb616b04a12736d938e2352fe3", func := "traveldoc/traveldoclaw16.SecurityobjectDiffers", spec := "securityobjectDiffers", inPlace := ["slices.overlaps[traveldoc/api.GroupHash]"], unfollowed := true, recurses := true, named := ["traveldoc/traveldocref15.tags", "traveldoc/datagroups.tags", "traveldoc/digest.constants", "traveldoc/traveldocref04.constants"], apart := false, laid := [("traveldoc/traveldocref04.constants", laid_traveldoc_traveldocref04_constants), ("traveldoc/traveldocref15.tags", laid_traveldoc_traveldocref15_tags), ("traveldoc/digest.constants", laid_traveldoc_digest_constants), ("traveldoc/datagroups.tags", laid_traveldoc_datagroups_tags)] }
def SecurityobjectDiffersSaid : Prop := securityobjectDiffersRow.holds Tryz.pinned (OpenSpec.ofChange securityobjectDiffersSpec)

/-- ITS FALSE NEIGHBOUR: 'it returns false'. Refute it at one input. -/
def securityobjectDiffersWrong : ChangeSpec := { name := "securityobjectDiffers", fn := fun _ => fun
  | [d1, d2] => { results := [.lit (.bool false)], args := [d1, d2] }
  | _ => none }
def SecurityobjectDiffersWrongFalsely : Prop := securityobjectDiffersRow.holds Tryz.pinned (OpenSpec.ofChange securityobjectDiffersWrong)

/-- 'traveldoclaw16.SecurityobjectExact': WHATEVER THE INPUT: true; the input reads as it did. -/
def securityobjectExactSpec : ChangeSpec := { name := "securityobjectExact", fn := fun _ => fun
  | [d1, d2] => { results := [.lit (.bool true)], args := [d1, d2] }
  | _ => none }
def securityobjectExactRow : OpenClaim := { program := "ythbpdhanljpigaagreatdoor", sum := "e278cce56db2bd1a78b45eaac296ae2da63479eb616b04a12736d938e2352fe3", func := "traveldoc/traveldoclaw16.SecurityobjectExact", spec := "securityobjectExact", inPlace := ["slices.overlaps[traveldoc/api.GroupHash]"], unfollowed := true, recurses := true, named := ["traveldoc/datagroups.tags", "traveldoc/traveldocref15.tags", "traveldoc/digest.constants"], apart := false, laid := [("traveldoc/traveldocref15.tags", laid_traveldoc_traveldocref15_tags), ("traveldoc/digest.constants", laid_traveldoc_digest_constants), ("traveldoc/datagroups.tags", laid_traveldoc_datagroups_tags)] }
def SecurityobjectExactSaid : Prop := securityobjectExactRow.holds Tryz.pinned (OpenSpec.ofChange securityobjectExactSpec)

/-- ITS FALSE NEIGHBOUR: 'it returns false'. Refute it at one input. -/
def securityobjectExactWrong : ChangeSpec := { name := "securityobjectExact", fn := fun _ => fun
  | [d1, d2] => { results := [.lit (.bool false)], args := [d1, d2] }
  | _ => none }
def SecurityobjectExactWrongFalsely : Prop := securityobjectExactRow.holds Tryz.pinned (OpenSpec.ofChange securityobjectExactWrong)

/-- 'traveldoclaw16.SecurityobjectMade': WHATEVER THE INPUT: true; the input reads as it did. -/
def securityobjectMadeSpec : ChangeSpec := { name := "securityobjectMade", fn := fun _ => fun
  | [d] => { results := [.lit (.bool true)], args := [d] }
  | _ => none }
def securityobjectMadeRow : OpenClaim := { program := "ythbpdhanljpigaagreatdoor", sum := "e278cce56db2bd1a78b45eaac296ae2da63479eb616b04a12736d938e2352fe3", func := "traveldoc/traveldoclaw16.SecurityobjectMade", spec := "securityobjectMade", inPlace := ["slices.overlaps[traveldoc/api.GroupHash]"], unfollowed := true, recurses := true, named := ["traveldoc/traveldocref15.tags", "traveldoc/datagroups.tags", "traveldoc/digest.constants", "traveldoc/traveldocref04.constants"], apart := false, laid := [("traveldoc/traveldocref04.constants", laid_traveldoc_traveldocref04_constants), ("traveldoc/traveldocref15.tags", laid_traveldoc_traveldocref15_tags), ("traveldoc/digest.constants", laid_traveldoc_digest_constants), ("traveldoc/datagroups.tags", laid_traveldoc_datagroups_tags)] }
def SecurityobjectMadeSaid : Prop := securityobjectMadeRow.holds Tryz.pinned (OpenSpec.ofChange securityobjectMadeSpec)

/-- ITS FALSE NEIGHBOUR: 'it returns false'. Refute it at one input. -/
def securityobjectMadeWrong : ChangeSpec := { name := "securityobjectMade", fn := fun _ => fun
  | [d] => { results := [.lit (.bool false)], args := [d] }
  | _ => none }
def SecurityobjectMadeWrongFalsely : Prop := securityobjectMadeRow.holds Tryz.pinned (OpenSpec.ofChange securityobjectMadeWrong)

/-- 'traveldoclaw16.SecurityobjectProves': WHATEVER THE INPUT: true; the input reads as it did. -/
def securityobjectProvesSpec : ChangeSpec := { name := "securityobjectProves", fn := fun _ => fun
  | [d1, d2] => { results := [.lit (.bool true)], args := [d1, d2] }
  | _ => none }
def securityobjectProvesRow : OpenClaim := { program := "ythbpdhanljpigaagreatdoor", sum := "e278cce56db2bd1a78b45eaac296ae2da63479eb616b04a12736d938e2352fe3", func := "traveldoc/traveldoclaw16.SecurityobjectProves", spec := "securityobjectProves", inPlace := ["slices.overlaps[traveldoc/api.GroupHash]"], unfollowed := true, recurses := true, named := ["traveldoc/traveldocref15.tags", "traveldoc/datagroups.tags", "traveldoc/digest.constants", "traveldoc/traveldocref04.constants"], apart := false, laid := [("traveldoc/traveldocref04.constants", laid_traveldoc_traveldocref04_constants), ("traveldoc/traveldocref15.tags", laid_traveldoc_traveldocref15_tags), ("traveldoc/digest.constants", laid_traveldoc_digest_constants), ("traveldoc/datagroups.tags", laid_traveldoc_datagroups_tags)] }
def SecurityobjectProvesSaid : Prop := securityobjectProvesRow.holds Tryz.pinned (OpenSpec.ofChange securityobjectProvesSpec)

/-- ITS FALSE NEIGHBOUR: 'it returns false'. Refute it at one input. -/
def securityobjectProvesWrong : ChangeSpec := { name := "securityobjectProves", fn := fun _ => fun
  | [d1, d2] => { results := [.lit (.bool false)], args := [d1, d2] }
  | _ => none }
def SecurityobjectProvesWrongFalsely : Prop := securityobjectProvesRow.holds Tryz.pinned (OpenSpec.ofChange securityobjectProvesWrong)

/- THE SECOND FORM. 'bulk': how many values and letters a reading holds, each counted each time it is reached (what is shared counts as often as it is met; a slice's spare places count too). A statement '..UptoSaid' is the law's where the arguments, and the package variables that the reading takes, are together of bulk at most 1048576: NARROWER than '..Said'. Prove '..Said' where nothing that the law and all that it calls make is longer than what came in: it says more and counts as full. Else prove '..UptoSaid'. A law counts once. -/
mutual
def uptoBulk {H : Type} : DataW H → Nat
  | .lit (.string bytes) => bytes.length + 1
  | .lit _ => 1
  | .nil => 1
  | .ptr d => uptoBulk d + 1
  | .slice elems spare => uptoBulkAll elems + uptoBulkAll spare + 1
  | .agg parts => uptoBulkAll parts + 1
  | .iface _ d => uptoBulk d + 1
  | .map entries => uptoBulkEntries entries + 1
  | .held _ => 1
def uptoBulkAll {H : Type} : List (DataW H) → Nat
  | [] => 0
  | d :: r => uptoBulk d + uptoBulkAll r
def uptoBulkEntries {H : Type} : List (Lit × DataW H) → Nat
  | [] => 0
  | x :: r => uptoBulkEntry x + uptoBulkEntries r
def uptoBulkEntry {H : Type} : Lit × DataW H → Nat
  | (.string bytes, d) => bytes.length + uptoBulk d + 1
  | (_, d) => uptoBulk d + 1
 end
def uptoSmall : (H : Type) → List (DataW H) → Bool := fun _ ds => decide (uptoBulkAll ds ≤ 1048576)
def OpenSpec.upto (s : _root_.Go.ChangeSpec) : _root_.Go.OpenSpec := { _root_.Go.OpenSpec.ofChange s with cond := some uptoSmall }

/-- 'traveldoclaw16.SecurityobjectSigns', WHERE WHAT IT READS IS OF BULK AT MOST 1048576: true; the input reads as it did. -/
def securityobjectSignsUptoRow : OpenClaim := { program := "ythbpdhanljpigaagreatdoor", sum := "e278cce56db2bd1a78b45eaac296ae2da63479eb616b04a12736d938e2352fe3", func := "traveldoc/traveldoclaw16.SecurityobjectSigns", spec := "securityobjectSigns", inPlace := ["slices.overlaps[traveldoc/api.GroupHash]"], unfollowed := true, recurses := true, named := ["traveldoc/traveldocref15.tags", "traveldoc/datagroups.tags", "traveldoc/digest.constants", "traveldoc/traveldocref04.constants"], apart := false, laid := [("traveldoc/traveldocref04.constants", laid_traveldoc_traveldocref04_constants), ("traveldoc/traveldocref15.tags", laid_traveldoc_traveldocref15_tags), ("traveldoc/digest.constants", laid_traveldoc_digest_constants), ("traveldoc/datagroups.tags", laid_traveldoc_datagroups_tags)], narrowed := true }
def SecurityobjectSignsUptoSaid : Prop := securityobjectSignsUptoRow.holds Tryz.pinned (OpenSpec.upto securityobjectSignsSpec)

/-- 'traveldoclaw16.SecurityobjectDiffers', WHERE WHAT IT READS IS OF BULK AT MOST 1048576: true; the input reads as it did. -/
def securityobjectDiffersUptoRow : OpenClaim := { program := "ythbpdhanljpigaagreatdoor", sum := "e278cce56db2bd1a78b45eaac296ae2da63479eb616b04a12736d938e2352fe3", func := "traveldoc/traveldoclaw16.SecurityobjectDiffers", spec := "securityobjectDiffers", inPlace := ["slices.overlaps[traveldoc/api.GroupHash]"], unfollowed := true, recurses := true, named := ["traveldoc/traveldocref15.tags", "traveldoc/datagroups.tags", "traveldoc/digest.constants", "traveldoc/traveldocref04.constants"], apart := false, laid := [("traveldoc/traveldocref04.constants", laid_traveldoc_traveldocref04_constants), ("traveldoc/traveldocref15.tags", laid_traveldoc_traveldocref15_tags), ("traveldoc/digest.constants", laid_traveldoc_digest_constants), ("traveldoc/datagroups.tags", laid_traveldoc_datagroups_tags)], narrowed := true }
def SecurityobjectDiffersUptoSaid : Prop := securityobjectDiffersUptoRow.holds Tryz.pinned (OpenSpec.upto securityobjectDiffersSpec)

/-- 'traveldoclaw16.SecurityobjectExact', WHERE WHAT IT READS IS OF BULK AT MOST 1048576: true; the input reads as it did. -/
def securityobjectExactUptoRow : OpenClaim := { program := "ythbpdhanljpigaagreatdoor", sum := "e278cce56db2bd1a78b45eaac296ae2da63479eb616b04a12736d938e2352fe3", func := "traveldoc/traveldoclaw16.SecurityobjectExact", spec := "securityobjectExact", inPlace := ["slices.overlaps[traveldoc/api.GroupHash]"], unfollowed := true, recurses := true, named := ["traveldoc/datagroups.tags", "traveldoc/traveldocref15.tags", "traveldoc/digest.constants"], apart := false, laid := [("traveldoc/traveldocref15.tags", laid_traveldoc_traveldocref15_tags), ("traveldoc/digest.constants", laid_traveldoc_digest_constants), ("traveldoc/datagroups.tags", laid_traveldoc_datagroups_tags)], narrowed := true }
def SecurityobjectExactUptoSaid : Prop := securityobjectExactUptoRow.holds Tryz.pinned (OpenSpec.upto securityobjectExactSpec)

/-- 'traveldoclaw16.SecurityobjectMade', WHERE WHAT IT READS IS OF BULK AT MOST 1048576: true; the input reads as it did. -/
def securityobjectMadeUptoRow : OpenClaim := { program := "ythbpdhanljpigaagreatdoor", sum := "e278cce56db2bd1a78b45eaac296ae2da63479eb616b04a12736d938e2352fe3", func := "traveldoc/traveldoclaw16.SecurityobjectMade", spec := "securityobjectMade", inPlace := ["slices.overlaps[traveldoc/api.GroupHash]"], unfollowed := true, recurses := true, named := ["traveldoc/traveldocref15.tags", "traveldoc/datagroups.tags", "traveldoc/digest.constants", "traveldoc/traveldocref04.constants"], apart := false, laid := [("traveldoc/traveldocref04.constants", laid_traveldoc_traveldocref04_constants), ("traveldoc/traveldocref15.tags", laid_traveldoc_traveldocref15_tags), ("traveldoc/digest.constants", laid_traveldoc_digest_constants), ("traveldoc/datagroups.tags", laid_traveldoc_datagroups_tags)], narrowed := true }
def SecurityobjectMadeUptoSaid : Prop := securityobjectMadeUptoRow.holds Tryz.pinned (OpenSpec.upto securityobjectMadeSpec)

/-- 'traveldoclaw16.SecurityobjectProves', WHERE WHAT IT READS IS OF BULK AT MOST 1048576: true; the input reads as it did. -/
def securityobjectProvesUptoRow : OpenClaim := { program := "ythbpdhanljpigaagreatdoor", sum := "e278cce56db2bd1a78b45eaac296ae2da63479eb616b04a12736d938e2352fe3", func := "traveldoc/traveldoclaw16.SecurityobjectProves", spec := "securityobjectProves", inPlace := ["slices.overlaps[traveldoc/api.GroupHash]"], unfollowed := true, recurses := true, named := ["traveldoc/traveldocref15.tags", "traveldoc/datagroups.tags", "traveldoc/digest.constants", "traveldoc/traveldocref04.constants"], apart := false, laid := [("traveldoc/traveldocref04.constants", laid_traveldoc_traveldocref04_constants), ("traveldoc/traveldocref15.tags", laid_traveldoc_traveldocref15_tags), ("traveldoc/digest.constants", laid_traveldoc_digest_constants), ("traveldoc/datagroups.tags", laid_traveldoc_datagroups_tags)], narrowed := true }
def SecurityobjectProvesUptoSaid : Prop := securityobjectProvesUptoRow.holds Tryz.pinned (OpenSpec.upto securityobjectProvesSpec)

end Rows
end Go.Proofs.YthbpdhanljpigaaGreatDoor
