/-
  NARROWER THAN 'FOR EVERY INPUT', by the rows' own cells (each row's printed sentence says how): SegmentFrames: laid · SegmentParses: laid · SegmentDetects: laid · SegmentFiles: laid · SegmentDamages: laid · SegmentLogs: laid · SegmentApart: laid · SegmentErrors: laid · SegmentRecovers: laid.
  DERIVED. THE GIVEN ROWS OF THIS SEAT. 9 by the template 'for every input the law returns true; each argument reads behind the call as it read before'; 0 by the template 'total and deterministic' (their statements: YtbafnlccpbonmaaGreatDoorTotals.lean).
  GIVEN WITH THE SEED: the statements are not yours to turn. If you find one false, say at which input.
  Laid BY PROGRAM, IN A SANDBOX (cutbox-rows.mjs): the forced cells as the released guide's own fill.sh prints them over the translation e0a3a1ffc1aa5c56… (all of the seat's roots in one cut). By AI agents, Wed Nov 11 2026. No macro, syntax, notation, axiom, sorry.
-/
import Derived.Test.YtbafnlccpbonmaaGreatDoorChecked
import GoSem.Claim
import GoSem.ClaimJoined
import GoSem.ClaimMapViews
import Derived.JoinedTies
import Derived.KernelRfl
namespace Go.Proofs.YtbafnlccpbonmaaGreatDoor
/- THE CELL 'sum', in the pinned program and in every row, IS THE sha256 OF THE DUMP (.gsa) THAT YtbafnlccpbonmaaGreatDoorProg.lean LOADS. Nothing in Lean hashes anything: it is a label: what it is worth is what the hold of that sum in a sandbox is worth. -/
noncomputable def Tryz.pinned : Pinned := { name := "ytbafnlccpbonmaagreatdoor", sum := "e0a3a1ffc1aa5c561dc50748b10d56b6d656052a69e48755d2aaf93bcb636bd2", checked := Tryz.checked }
namespace Rows
def none {H : Type} : Left H := { results := [], args := [] }

/- WHAT THE LISTED PACKAGE-LEVEL VARIABLES READ AS WHEN THE CALL BEGINS. Each datum BY PROGRAM (the guide's laid-datum.mjs) off the statement by which the dump's own 'gosem.cut.vars' lays the variable. In a bare row this is a premise. The card (YtbafnlccpbonmaaGreatDoorCards.lean) ties it to the program's text. -/
def laid_math_bits_deBruijn32tab {H : Type} : DataW H := .agg [.lit (.int .u8 0), .lit (.int .u8 1), .lit (.int .u8 28), .lit (.int .u8 2), .lit (.int .u8 29), .lit (.int .u8 14), .lit (.int .u8 24), .lit (.int .u8 3), .lit (.int .u8 30), .lit (.int .u8 22), .lit (.int .u8 20), .lit (.int .u8 15), .lit (.int .u8 25), .lit (.int .u8 17), .lit (.int .u8 4), .lit (.int .u8 8), .lit (.int .u8 31), .lit (.int .u8 27), .lit (.int .u8 13), .lit (.int .u8 23), .lit (.int .u8 21), .lit (.int .u8 19), .lit (.int .u8 16), .lit (.int .u8 7), .lit (.int .u8 26), .lit (.int .u8 12), .lit (.int .u8 18), .lit (.int .u8 6), .lit (.int .u8 11), .lit (.int .u8 5), .lit (.int .u8 10), .lit (.int .u8 9)]
def laid_math_bits_deBruijn64tab {H : Type} : DataW H := .agg [.lit (.int .u8 0), .lit (.int .u8 1), .lit (.int .u8 56), .lit (.int .u8 2), .lit (.int .u8 57), .lit (.int .u8 49), .lit (.int .u8 28), .lit (.int .u8 3), .lit (.int .u8 61), .lit (.int .u8 58), .lit (.int .u8 42), .lit (.int .u8 50), .lit (.int .u8 38), .lit (.int .u8 29), .lit (.int .u8 17), .lit (.int .u8 4), .lit (.int .u8 62), .lit (.int .u8 47), .lit (.int .u8 59), .lit (.int .u8 36), .lit (.int .u8 45), .lit (.int .u8 43), .lit (.int .u8 51), .lit (.int .u8 22), .lit (.int .u8 53), .lit (.int .u8 39), .lit (.int .u8 33), .lit (.int .u8 30), .lit (.int .u8 24), .lit (.int .u8 18), .lit (.int .u8 12), .lit (.int .u8 5), .lit (.int .u8 63), .lit (.int .u8 55), .lit (.int .u8 48), .lit (.int .u8 27), .lit (.int .u8 60), .lit (.int .u8 41), .lit (.int .u8 37), .lit (.int .u8 16), .lit (.int .u8 46), .lit (.int .u8 35), .lit (.int .u8 44), .lit (.int .u8 21), .lit (.int .u8 52), .lit (.int .u8 32), .lit (.int .u8 23), .lit (.int .u8 11), .lit (.int .u8 54), .lit (.int .u8 26), .lit (.int .u8 40), .lit (.int .u8 15), .lit (.int .u8 34), .lit (.int .u8 20), .lit (.int .u8 31), .lit (.int .u8 10), .lit (.int .u8 25), .lit (.int .u8 14), .lit (.int .u8 19), .lit (.int .u8 9), .lit (.int .u8 13), .lit (.int .u8 8), .lit (.int .u8 7), .lit (.int .u8 6)]
def laid_internal_strconv_uint64pow10 {H : Type} : DataW H := .agg [.lit (.int .u64 1), .lit (.int .u64 10), .lit (.int .u64 100), .lit (.int .u64 1000), .lit (.int .u64 10000), .lit (.int .u64 100000), .lit (.int .u64 1000000), .lit (.int .u64 10000000), .lit (.int .u64 100000000), .lit (.int .u64 1000000000), .lit (.int .u64 10000000000), .lit (.int .u64 100000000000), .lit (.int .u64 1000000000000), .lit (.int .u64 10000000000000), .lit (.int .u64 100000000000000), .lit (.int .u64 1000000000000000), .lit (.int .u64 10000000000000000), .lit (.int .u64 100000000000000000), .lit (.int .u64 1000000000000000000), .lit (.int .u64 10000000000000000000)]
def laid_strconv_ErrRange {H : Type} : DataW H := .iface "*errors.errorString" (.ptr (.agg [.lit (.string [118, 97, 108, 117, 101, 32, 111, 117, 116, 32, 111, 102, 32, 114, 97, 110, 103, 101])]))
def laid_strconv_ErrSyntax {H : Type} : DataW H := .iface "*errors.errorString" (.ptr (.agg [.lit (.string [105, 110, 118, 97, 108, 105, 100, 32, 115, 121, 110, 116, 97, 120])]))

/-- 'manifoldlaw45.SegmentFrames': WHATEVER THE INPUT: true; the input reads as it did. -/
def segmentFramesSpec : ChangeSpec := { name := "segmentFrames", fn := fun _ => fun
  | [d1, d2, d3] => { results := [.lit (.bool true)], args := [d1, d2, d3] }
  | _ => none }
def segmentFramesRow : OpenClaim := { program := "ytbafnlccpbonmaagreatdoor", sum := "e0a3a1ffc1aa5c561dc50748b10d56b6d656052a69e48755d2aaf93bcb636bd2", func := "manifold/manifoldlaw45.SegmentFrames", spec := "segmentFrames", inPlace := ["internal/abi.NoEscape", "internal/bytealg.MakeNoZero"], unfollowed := true, recurses := true, named := ["strconv.ErrSyntax", "strconv.ErrRange", "internal/strconv.uint64pow10", "math/bits.deBruijn32tab", "math/bits.deBruijn64tab"], apart := false, laid := [("math/bits.deBruijn32tab", laid_math_bits_deBruijn32tab), ("math/bits.deBruijn64tab", laid_math_bits_deBruijn64tab), ("internal/strconv.uint64pow10", laid_internal_strconv_uint64pow10), ("strconv.ErrRange", laid_strconv_ErrRange), ("strconv.ErrSyntax", laid_strconv_ErrSyntax)] }
def SegmentFramesSaid : Prop := segmentFramesRow.holds Tryz.pinned (OpenSpec.ofChange segmentFramesSpec)

/-- ITS FALSE NEIGHBOUR: 'it returns false'. Refute it at one input. -/
def segmentFramesWrong : ChangeSpec := { name := "segmentFrames", fn := fun _ => fun
  | [d1, d2, d3] => { results := [.lit (.bool false)], args := [d1, d2, d3] }
  | _ => none }
def SegmentFramesWrongFalsely : Prop := segmentFramesRow.holds Tryz.pinned (OpenSpec.ofChange segmentFramesWrong)

/-- 'manifoldlaw45.SegmentParses': WHATEVER THE INPUT: true; the input reads as it did. -/
def segmentParsesSpec : ChangeSpec := { name := "segmentParses", fn := fun _ => fun
  | [d1, d2, d3] => { results := [.lit (.bool true)], args := [d1, d2, d3] }
  | _ => none }
def segmentParsesRow : OpenClaim := { program := "ytbafnlccpbonmaagreatdoor", sum := "e0a3a1ffc1aa5c561dc50748b10d56b6d656052a69e48755d2aaf93bcb636bd2", func := "manifold/manifoldlaw45.SegmentParses", spec := "segmentParses", inPlace := ["internal/abi.NoEscape", "internal/bytealg.MakeNoZero"], unfollowed := true, recurses := true, named := ["strconv.ErrSyntax", "strconv.ErrRange", "internal/strconv.uint64pow10", "math/bits.deBruijn32tab", "math/bits.deBruijn64tab"], apart := false, laid := [("math/bits.deBruijn32tab", laid_math_bits_deBruijn32tab), ("math/bits.deBruijn64tab", laid_math_bits_deBruijn64tab), ("internal/strconv.uint64pow10", laid_internal_strconv_uint64pow10), ("strconv.ErrRange", laid_strconv_ErrRange), ("strconv.ErrSyntax", laid_strconv_ErrSyntax)] }
def SegmentParsesSaid : Prop := segmentParsesRow.holds Tryz.pinned (OpenSpec.ofChange segmentParsesSpec)

/-- ITS FALSE NEIGHBOUR: 'it returns false'. Refute it at one input. -/
def segmentParsesWrong : ChangeSpec := { name := "segmentParses", fn := fun _ => fun
  | [d1, d2, d3] => { results := [.lit (.bool false)], args := [d1, d2, d3] }
  | _ => none }
def SegmentParsesWrongFalsely : Prop := segmentParsesRow.holds Tryz.pinned (OpenSpec.ofChange segmentParsesWrong)

/-- 'manifoldlaw45.SegmentDetects': WHATEVER THE INPUT: true; the input reads as it did. -/
def segmentDetectsSpec : ChangeSpec := { name := "segmentDetects", fn := fun _ => fun
  | [d1, d2, d3] => { results := [.lit (.bool true)], args := [d1, d2, d3] }
  | _ => none }
def segmentDetectsRow : OpenClaim := { program := "ytbafnlccpbonmaagreatdoor", sum := "e0a3a1ffc1aa5c561dc50748b10d56b6d656052a69e48755d2aaf93bcb636bd2", func := "manifold/manifoldlaw45.SegmentDetects", spec := "segmentDetects", inPlace := ["internal/abi.NoEscape", "internal/bytealg.MakeNoZero"], unfollowed := true, recurses := true, named := ["strconv.ErrSyntax", "strconv.ErrRange", "internal/strconv.uint64pow10", "math/bits.deBruijn32tab", "math/bits.deBruijn64tab"], apart := false, laid := [("math/bits.deBruijn32tab", laid_math_bits_deBruijn32tab), ("math/bits.deBruijn64tab", laid_math_bits_deBruijn64tab), ("internal/strconv.uint64pow10", laid_internal_strconv_uint64pow10), ("strconv.ErrRange", laid_strconv_ErrRange), ("strconv.ErrSyntax", laid_strconv_ErrSyntax)] }
def SegmentDetectsSaid : Prop := segmentDetectsRow.holds Tryz.pinned (OpenSpec.ofChange segmentDetectsSpec)

/-- ITS FALSE NEIGHBOUR: 'it returns false'. Refute it at one input. -/
def segmentDetectsWrong : ChangeSpec := { name := "segmentDetects", fn := fun _ => fun
  | [d1, d2, d3] => { results := [.lit (.bool false)], args := [d1, d2, d3] }
  | _ => none }
def SegmentDetectsWrongFalsely : Prop := segmentDetectsRow.holds Tryz.pinned (OpenSpec.ofChange segmentDetectsWrong)

/-- 'manifoldlaw45.SegmentFiles': WHATEVER THE INPUT: true; the input reads as it did. -/
def segmentFilesSpec : ChangeSpec := { name := "segmentFiles", fn := fun _ => fun
  | [d1, d2, d3] => { results := [.lit (.bool true)], args := [d1, d2, d3] }
  | _ => none }
def segmentFilesRow : OpenClaim := { program := "ytbafnlccpbonmaagreatdoor", sum := "e0a3a1ffc1aa5c561dc50748b10d56b6d656052a69e48755d2aaf93bcb636bd2", func := "manifold/manifoldlaw45.SegmentFiles", spec := "segmentFiles", inPlace := ["internal/abi.NoEscape", "internal/bytealg.MakeNoZero"], unfollowed := true, recurses := true, named := ["internal/strconv.uint64pow10", "math/bits.deBruijn32tab", "math/bits.deBruijn64tab", "strconv.ErrSyntax", "strconv.ErrRange"], apart := false, laid := [("math/bits.deBruijn32tab", laid_math_bits_deBruijn32tab), ("math/bits.deBruijn64tab", laid_math_bits_deBruijn64tab), ("internal/strconv.uint64pow10", laid_internal_strconv_uint64pow10), ("strconv.ErrRange", laid_strconv_ErrRange), ("strconv.ErrSyntax", laid_strconv_ErrSyntax)] }
def SegmentFilesSaid : Prop := segmentFilesRow.holds Tryz.pinned (OpenSpec.ofChange segmentFilesSpec)

/-- ITS FALSE NEIGHBOUR: 'it returns false'. Refute it at one input. -/
def segmentFilesWrong : ChangeSpec := { name := "segmentFiles", fn := fun _ => fun
  | [d1, d2, d3] => { results := [.lit (.bool false)], args := [d1, d2, d3] }
  | _ => none }
def SegmentFilesWrongFalsely : Prop := segmentFilesRow.holds Tryz.pinned (OpenSpec.ofChange segmentFilesWrong)

/-- 'manifoldlaw45.SegmentDamages': WHATEVER THE INPUT: true; the input reads as it did. -/
def segmentDamagesSpec : ChangeSpec := { name := "segmentDamages", fn := fun _ => fun
  | [d1, d2, d3] => { results := [.lit (.bool true)], args := [d1, d2, d3] }
  | _ => none }
def segmentDamagesRow : OpenClaim := { program := "ytbafnlccpbonmaagreatdoor", sum := "e0a3a1ffc1aa5c561dc50748b10d56b6d656052a69e48755d2aaf93bcb636bd2", func := "manifold/manifoldlaw45.SegmentDamages", spec := "segmentDamages", inPlace := ["internal/abi.NoEscape", "internal/bytealg.MakeNoZero"], unfollowed := true, recurses := true, named := ["strconv.ErrSyntax", "strconv.ErrRange", "internal/strconv.uint64pow10", "math/bits.deBruijn32tab", "math/bits.deBruijn64tab"], apart := false, laid := [("math/bits.deBruijn32tab", laid_math_bits_deBruijn32tab), ("math/bits.deBruijn64tab", laid_math_bits_deBruijn64tab), ("internal/strconv.uint64pow10", laid_internal_strconv_uint64pow10), ("strconv.ErrRange", laid_strconv_ErrRange), ("strconv.ErrSyntax", laid_strconv_ErrSyntax)] }
def SegmentDamagesSaid : Prop := segmentDamagesRow.holds Tryz.pinned (OpenSpec.ofChange segmentDamagesSpec)

/-- ITS FALSE NEIGHBOUR: 'it returns false'. Refute it at one input. -/
def segmentDamagesWrong : ChangeSpec := { name := "segmentDamages", fn := fun _ => fun
  | [d1, d2, d3] => { results := [.lit (.bool false)], args := [d1, d2, d3] }
  | _ => none }
def SegmentDamagesWrongFalsely : Prop := segmentDamagesRow.holds Tryz.pinned (OpenSpec.ofChange segmentDamagesWrong)

/-- 'manifoldlaw45.SegmentLogs': WHATEVER THE INPUT: true; the input reads as it did. -/
def segmentLogsSpec : ChangeSpec := { name := "segmentLogs", fn := fun _ => fun
  | [d1, d2] => { results := [.lit (.bool true)], args := [d1, d2] }
  | _ => none }
def segmentLogsRow : OpenClaim := { program := "ytbafnlccpbonmaagreatdoor", sum := "e0a3a1ffc1aa5c561dc50748b10d56b6d656052a69e48755d2aaf93bcb636bd2", func := "manifold/manifoldlaw45.SegmentLogs", spec := "segmentLogs", inPlace := ["internal/abi.NoEscape", "internal/bytealg.MakeNoZero"], unfollowed := true, recurses := true, named := ["strconv.ErrSyntax", "strconv.ErrRange", "internal/strconv.uint64pow10", "math/bits.deBruijn32tab", "math/bits.deBruijn64tab"], apart := false, laid := [("math/bits.deBruijn32tab", laid_math_bits_deBruijn32tab), ("math/bits.deBruijn64tab", laid_math_bits_deBruijn64tab), ("internal/strconv.uint64pow10", laid_internal_strconv_uint64pow10), ("strconv.ErrRange", laid_strconv_ErrRange), ("strconv.ErrSyntax", laid_strconv_ErrSyntax)] }
def SegmentLogsSaid : Prop := segmentLogsRow.holds Tryz.pinned (OpenSpec.ofChange segmentLogsSpec)

/-- ITS FALSE NEIGHBOUR: 'it returns false'. Refute it at one input. -/
def segmentLogsWrong : ChangeSpec := { name := "segmentLogs", fn := fun _ => fun
  | [d1, d2] => { results := [.lit (.bool false)], args := [d1, d2] }
  | _ => none }
def SegmentLogsWrongFalsely : Prop := segmentLogsRow.holds Tryz.pinned (OpenSpec.ofChange segmentLogsWrong)

/-- 'manifoldlaw45.SegmentApart': WHATEVER THE INPUT: true; the input reads as it did. -/
def segmentApartSpec : ChangeSpec := { name := "segmentApart", fn := fun _ => fun
  | [d1, d2] => { results := [.lit (.bool true)], args := [d1, d2] }
  | _ => none }
def segmentApartRow : OpenClaim := { program := "ytbafnlccpbonmaagreatdoor", sum := "e0a3a1ffc1aa5c561dc50748b10d56b6d656052a69e48755d2aaf93bcb636bd2", func := "manifold/manifoldlaw45.SegmentApart", spec := "segmentApart", inPlace := ["internal/abi.NoEscape", "internal/bytealg.MakeNoZero"], unfollowed := true, recurses := true, named := ["strconv.ErrSyntax", "strconv.ErrRange", "internal/strconv.uint64pow10", "math/bits.deBruijn32tab", "math/bits.deBruijn64tab"], apart := false, laid := [("math/bits.deBruijn32tab", laid_math_bits_deBruijn32tab), ("math/bits.deBruijn64tab", laid_math_bits_deBruijn64tab), ("internal/strconv.uint64pow10", laid_internal_strconv_uint64pow10), ("strconv.ErrRange", laid_strconv_ErrRange), ("strconv.ErrSyntax", laid_strconv_ErrSyntax)] }
def SegmentApartSaid : Prop := segmentApartRow.holds Tryz.pinned (OpenSpec.ofChange segmentApartSpec)

/-- ITS FALSE NEIGHBOUR: 'it returns false'. Refute it at one input. -/
def segmentApartWrong : ChangeSpec := { name := "segmentApart", fn := fun _ => fun
  | [d1, d2] => { results := [.lit (.bool false)], args := [d1, d2] }
  | _ => none }
def SegmentApartWrongFalsely : Prop := segmentApartRow.holds Tryz.pinned (OpenSpec.ofChange segmentApartWrong)

/-- 'manifoldlaw45.SegmentErrors': WHATEVER THE INPUT: true; the input reads as it did. -/
def segmentErrorsSpec : ChangeSpec := { name := "segmentErrors", fn := fun _ => fun
  | [d1, d2, d3] => { results := [.lit (.bool true)], args := [d1, d2, d3] }
  | _ => none }
def segmentErrorsRow : OpenClaim := { program := "ytbafnlccpbonmaagreatdoor", sum := "e0a3a1ffc1aa5c561dc50748b10d56b6d656052a69e48755d2aaf93bcb636bd2", func := "manifold/manifoldlaw45.SegmentErrors", spec := "segmentErrors", inPlace := ["internal/abi.NoEscape", "internal/bytealg.MakeNoZero"], unfollowed := true, recurses := true, named := ["strconv.ErrSyntax", "strconv.ErrRange", "internal/strconv.uint64pow10", "math/bits.deBruijn32tab", "math/bits.deBruijn64tab"], apart := false, laid := [("math/bits.deBruijn32tab", laid_math_bits_deBruijn32tab), ("math/bits.deBruijn64tab", laid_math_bits_deBruijn64tab), ("internal/strconv.uint64pow10", laid_internal_strconv_uint64pow10), ("strconv.ErrRange", laid_strconv_ErrRange), ("strconv.ErrSyntax", laid_strconv_ErrSyntax)] }
def SegmentErrorsSaid : Prop := segmentErrorsRow.holds Tryz.pinned (OpenSpec.ofChange segmentErrorsSpec)

/-- ITS FALSE NEIGHBOUR: 'it returns false'. Refute it at one input. -/
def segmentErrorsWrong : ChangeSpec := { name := "segmentErrors", fn := fun _ => fun
  | [d1, d2, d3] => { results := [.lit (.bool false)], args := [d1, d2, d3] }
  | _ => none }
def SegmentErrorsWrongFalsely : Prop := segmentErrorsRow.holds Tryz.pinned (OpenSpec.ofChange segmentErrorsWrong)

/-- 'manifoldlaw45.SegmentRecovers': WHATEVER THE INPUT: true; the input reads as it did. -/
def segmentRecoversSpec : ChangeSpec := { name := "segmentRecovers", fn := fun _ => fun
  | [d1, d2, d3] => { results := [.lit (.bool true)], args := [d1, d2, d3] }
  | _ => none }
def segmentRecoversRow : OpenClaim := { program := "ytbafnlccpbonmaagreatdoor", sum := "e0a3a1ffc1aa5c561dc50748b10d56b6d656052a69e48755d2aaf93bcb636bd2", func := "manifold/manifoldlaw45.SegmentRecovers", spec := "segmentRecovers", inPlace := ["internal/abi.NoEscape", "internal/bytealg.MakeNoZero"], unfollowed := true, recurses := true, named := ["strconv.ErrSyntax", "strconv.ErrRange", "internal/strconv.uint64pow10", "math/bits.deBruijn32tab", "math/bits.deBruijn64tab"], apart := false, laid := [("math/bits.deBruijn32tab", laid_math_bits_deBruijn32tab), ("math/bits.deBruijn64tab", laid_math_bits_deBruijn64tab), ("internal/strconv.uint64pow10", laid_internal_strconv_uint64pow10), ("strconv.ErrRange", laid_strconv_ErrRange), ("strconv.ErrSyntax", laid_strconv_ErrSyntax)] }
def SegmentRecoversSaid : Prop := segmentRecoversRow.holds Tryz.pinned (OpenSpec.ofChange segmentRecoversSpec)

/-- ITS FALSE NEIGHBOUR: 'it returns false'. Refute it at one input. -/
def segmentRecoversWrong : ChangeSpec := { name := "segmentRecovers", fn := fun _ => fun
  | [d1, d2, d3] => { results := [.lit (.bool false)], args := [d1, d2, d3] }
  | _ => none }
def SegmentRecoversWrongFalsely : Prop := segmentRecoversRow.holds Tryz.pinned (OpenSpec.ofChange segmentRecoversWrong)

/- THE SECOND FORM. 'bulk': how many values and letters a reading holds, each counted each time it is reached (what is shared counts as often as it is met; a slice's spare places count too). A statement '..UptoSaid' is the law's where the arguments, and the package variables that the reading takes, are together of bulk at most 1048576: NARROWER than '..Said'. Prove '..Said' where nothing that the law and all that it calls make is longer than what came in: it says more and counts as full. Else prove '..UptoSaid'. A law counts once. -/
mutual
def uptoBulk {H : Type} : DataW H → Nat
  | .lit (.string bytes) => bytes.length + 1
  | .lit _ => 1
  | .nil => 1
  | .ptr d => uptoBulk d + 1
  | .slice elems spare => uptoBulkAll elems + uptoBulkAll spare + 1
  | .agg parts => uptoBulkAll parts + 1
  | .iface _ d => uptoBulk d + 1
  | .map entries => uptoBulkEntries entries + 1
  | .held _ => 1
def uptoBulkAll {H : Type} : List (DataW H) → Nat
  | [] => 0
  | d :: r => uptoBulk d + uptoBulkAll r
def uptoBulkEntries {H : Type} : List (Lit × DataW H) → Nat
  | [] => 0
  | x :: r => uptoBulkEntry x + uptoBulkEntries r
def uptoBulkEntry {H : Type} : Lit × DataW H → Nat
  | (.string bytes, d) => bytes.length + uptoBulk d + 1
  | (_, d) => uptoBulk d + 1
 end
def uptoSmall : (H : Type) → List (DataW H) → Bool := fun _ ds => decide (uptoBulkAll ds ≤ 1048576)
def OpenSpec.upto (s : _root_.Go.ChangeSpec) : _root_.Go.OpenSpec := { _root_.Go.OpenSpec.ofChange s with cond := some uptoSmall }

/-- 'manifoldlaw45.SegmentFrames', WHERE WHAT IT READS IS OF BULK AT MOST 1048576: true; the input reads as it did. -/
def segmentFramesUptoRow : OpenClaim := { program := "ytbafnlccpbonmaagreatdoor", sum := "e0a3a1ffc1aa5c561dc50748b10d56b6d656052a69e48755d2aaf93bcb636bd2", func := "manifold/manifoldlaw45.SegmentFrames", spec := "segmentFrames", inPlace := ["internal/abi.NoEscape", "internal/bytealg.MakeNoZero"], unfollowed := true, recurses := true, named := ["strconv.ErrSyntax", "strconv.ErrRange", "internal/strconv.uint64pow10", "math/bits.deBruijn32tab", "math/bits.deBruijn64tab"], apart := false, laid := [("math/bits.deBruijn32tab", laid_math_bits_deBruijn32tab), ("math/bits.deBruijn64tab", laid_math_bits_deBruijn64tab), ("internal/strconv.uint64pow10", laid_internal_strconv_uint64pow10), ("strconv.ErrRange", laid_strconv_ErrRange), ("strconv.ErrSyntax", laid_strconv_ErrSyntax)], narrowed := true }
def SegmentFramesUptoSaid : Prop := segmentFramesUptoRow.holds Tryz.pinned (OpenSpec.upto segmentFramesSpec)

/-- 'manifoldlaw45.SegmentParses', WHERE WHAT IT READS IS OF BULK AT MOST 1048576: true; the input reads as it did. -/
def segmentParsesUptoRow : OpenClaim := { program := "ytbafnlccpbonmaagreatdoor", sum := "e0a3a1ffc1aa5c561dc50748b10d56b6d656052a69e48755d2aaf93bcb636bd2", func := "manifold/manifoldlaw45.SegmentParses", spec := "segmentParses", inPlace := ["internal/abi.NoEscape", "internal/bytealg.MakeNoZero"], unfollowed := true, recurses := true, named := ["strconv.ErrSyntax", "strconv.ErrRange", "internal/strconv.uint64pow10", "math/bits.deBruijn32tab", "math/bits.deBruijn64tab"], apart := false, laid := [("math/bits.deBruijn32tab", laid_math_bits_deBruijn32tab), ("math/bits.deBruijn64tab", laid_math_bits_deBruijn64tab), ("internal/strconv.uint64pow10", laid_internal_strconv_uint64pow10), ("strconv.ErrRange", laid_strconv_ErrRange), ("strconv.ErrSyntax", laid_strconv_ErrSyntax)], narrowed := true }
def SegmentParsesUptoSaid : Prop := segmentParsesUptoRow.holds Tryz.pinned (OpenSpec.upto segmentParsesSpec)

/-- 'manifoldlaw45.SegmentDetects', WHERE WHAT IT READS IS OF BULK AT MOST 1048576: true; the input reads as it did. -/
def segmentDetectsUptoRow : OpenClaim := { program := "ytbafnlccpbonmaagreatdoor", sum := "e0a3a1ffc1aa5c561dc50748b10d56b6d656052a69e48755d2aaf93bcb636bd2", func := "manifold/manifoldlaw45.SegmentDetects", spec := "segmentDetects", inPlace := ["internal/abi.NoEscape", "internal/bytealg.MakeNoZero"], unfollowed := true, recurses := true, named := ["strconv.ErrSyntax", "strconv.ErrRange", "internal/strconv.uint64pow10", "math/bits.deBruijn32tab", "math/bits.deBruijn64tab"], apart := false, laid := [("math/bits.deBruijn32tab", laid_math_bits_deBruijn32tab), ("math/bits.deBruijn64tab", laid_math_bits_deBruijn64tab), ("internal/strconv.uint64pow10", laid_internal_strconv_uint64pow10), ("strconv.ErrRange", laid_strconv_ErrRange), ("strconv.ErrSyntax", laid_strconv_ErrSyntax)], narrowed := true }
def SegmentDetectsUptoSaid : Prop := segmentDetectsUptoRow.holds Tryz.pinned (OpenSpec.upto segmentDetectsSpec)

/-- 'manifoldlaw45.SegmentFiles', WHERE WHAT IT READS IS OF BULK AT MOST 1048576: true; the input reads as it did. -/
def segmentFilesUptoRow : OpenClaim := { program := "ytbafnlccpbonmaagreatdoor", sum := "e0a3a1ffc1aa5c561dc50748b10d56b6d656052a69e48755d2aaf93bcb636bd2", func := "manifold/manifoldlaw45.SegmentFiles", spec := "segmentFiles", inPlace := ["internal/abi.NoEscape", "internal/bytealg.MakeNoZero"], unfollowed := true, recurses := true, named := ["internal/strconv.uint64pow10", "math/bits.deBruijn32tab", "math/bits.deBruijn64tab", "strconv.ErrSyntax", "strconv.ErrRange"], apart := false, laid := [("math/bits.deBruijn32tab", laid_math_bits_deBruijn32tab), ("math/bits.deBruijn64tab", laid_math_bits_deBruijn64tab), ("internal/strconv.uint64pow10", laid_internal_strconv_uint64pow10), ("strconv.ErrRange", laid_strconv_ErrRange), ("strconv.ErrSyntax", laid_strconv_ErrSyntax)], narrowed := true }
def SegmentFilesUptoSaid : Prop := segmentFilesUptoRow.holds Tryz.pinned (OpenSpec.upto segmentFilesSpec)

/-- 'manifoldlaw45.SegmentDamages', WHERE WHAT IT READS IS OF BULK AT MOST 1048576: true; the input reads as it did. -/
def segmentDamagesUptoRow : OpenClaim := { program := "ytbafnlccpbonmaagreatdoor", sum := "e0a3a1ffc1aa5c561dc50748b10d56b6d656052a69e48755d2aaf93bcb636bd2", func := "manifold/manifoldlaw45.SegmentDamages", spec := "segmentDamages", inPlace := ["internal/abi.NoEscape", "internal/bytealg.MakeNoZero"], unfollowed := true, recurses := true, named := ["strconv.ErrSyntax", "strconv.ErrRange", "internal/strconv.uint64pow10", "math/bits.deBruijn32tab", "math/bits.deBruijn64tab"], apart := false, laid := [("math/bits.deBruijn32tab", laid_math_bits_deBruijn32tab), ("math/bits.deBruijn64tab", laid_math_bits_deBruijn64tab), ("internal/strconv.uint64pow10", laid_internal_strconv_uint64pow10), ("strconv.ErrRange", laid_strconv_ErrRange), ("strconv.ErrSyntax", laid_strconv_ErrSyntax)], narrowed := true }
def SegmentDamagesUptoSaid : Prop := segmentDamagesUptoRow.holds Tryz.pinned (OpenSpec.upto segmentDamagesSpec)

/-- 'manifoldlaw45.SegmentLogs', WHERE WHAT IT READS IS OF BULK AT MOST 1048576: true; the input reads as it did. -/
def segmentLogsUptoRow : OpenClaim := { program := "ytbafnlccpbonmaagreatdoor", sum := "e0a3a1ffc1aa5c561dc50748b10d56b6d656052a69e48755d2aaf93bcb636bd2", func := "manifold/manifoldlaw45.SegmentLogs", spec := "segmentLogs", inPlace := ["internal/abi.NoEscape", "internal/bytealg.MakeNoZero"], unfollowed := true, recurses := true, named := ["strconv.ErrSyntax", "strconv.ErrRange", "internal/strconv.uint64pow10", "math/bits.deBruijn32tab", "math/bits.deBruijn64tab"], apart := false, laid := [("math/bits.deBruijn32tab", laid_math_bits_deBruijn32tab), ("math/bits.deBruijn64tab", laid_math_bits_deBruijn64tab), ("internal/strconv.uint64pow10", laid_internal_strconv_uint64pow10), ("strconv.ErrRange", laid_strconv_ErrRange), ("strconv.ErrSyntax", laid_strconv_ErrSyntax)], narrowed := true }
def SegmentLogsUptoSaid : Prop := segmentLogsUptoRow.holds Tryz.pinned (OpenSpec.upto segmentLogsSpec)

/-- 'manifoldlaw45.SegmentApart', WHERE WHAT IT READS IS OF BULK AT MOST 1048576: true; the input reads as it did. -/
def segmentApartUptoRow : OpenClaim := { program := "ytbafnlccpbonmaagreatdoor", sum := "e0a3a1ffc1aa5c561dc50748b10d56b6d656052a69e48755d2aaf93bcb636bd2", func := "manifold/manifoldlaw45.SegmentApart", spec := "segmentApart", inPlace := ["internal/abi.NoEscape", "internal/bytealg.MakeNoZero"], unfollowed := true, recurses := true, named := ["strconv.ErrSyntax", "strconv.ErrRange", "internal/strconv.uint64pow10", "math/bits.deBruijn32tab", "math/bits.deBruijn64tab"], apart := false, laid := [("math/bits.deBruijn32tab", laid_math_bits_deBruijn32tab), ("math/bits.deBruijn64tab", laid_math_bits_deBruijn64tab), ("internal/strconv.uint64pow10", laid_internal_strconv_uint64pow10), ("strconv.ErrRange", laid_strconv_ErrRange), ("strconv.ErrSyntax", laid_strconv_ErrSyntax)], narrowed := true }
def SegmentApartUptoSaid : Prop := segmentApartUptoRow.holds Tryz.pinned (OpenSpec.upto segmentApartSpec)

/-- 'manifoldlaw45.SegmentErrors', WHERE WHAT IT READS IS OF BULK AT MOST 1048576: true; the input reads as it did. -/
def segmentErrorsUptoRow : OpenClaim := { program := "ytbafnlccpbonmaagreatdoor", sum := "e0a3a1ffc1aa5c561dc50748b10d56b6d656052a69e48755d2aaf93bcb636bd2", func := "manifold/manifoldlaw45.SegmentErrors", spec := "segmentErrors", inPlace := ["internal/abi.NoEscape", "internal/bytealg.MakeNoZero"], unfollowed := true, recurses := true, named := ["strconv.ErrSyntax", "strconv.ErrRange", "internal/strconv.uint64pow10", "math/bits.deBruijn32tab", "math/bits.deBruijn64tab"], apart := false, laid := [("math/bits.deBruijn32tab", laid_math_bits_deBruijn32tab), ("math/bits.deBruijn64tab", laid_math_bits_deBruijn64tab), ("internal/strconv.uint64pow10", laid_internal_strconv_uint64pow10), ("strconv.ErrRange", laid_strconv_ErrRange), ("strconv.ErrSyntax", laid_strconv_ErrSyntax)], narrowed := true }
def SegmentErrorsUptoSaid : Prop := segmentErrorsUptoRow.holds Tryz.pinned (OpenSpec.upto segmentErrorsSpec)

/-- 'manifoldlaw45.SegmentRecovers', WHERE WHAT IT READS IS OF BULK AT MOST 1048576: true; the input reads as it did. -/
def segmentRecoversUptoRow : OpenClaim := { program := "ytbafnlccpbonmaagreatdoor", sum := "e0a3a1ffc1aa5c561dc50748b10d56b6d656052a69e48755d2aaf93bcb636bd2", func := "manifold/manifoldlaw45.SegmentRecovers", spec := "segmentRecovers", inPlace := ["internal/abi.NoEscape", "internal/bytealg.MakeNoZero"], unfollowed := true, recurses := true, named := ["strconv.ErrSyntax", "strconv.ErrRange", "internal/strconv.uint64pow10", "math/bits.deBruijn32tab", "math/bits.deBruijn64tab"], apart := false, laid := [("math/bits.deBruijn32tab", laid_math_bits_deBruijn32tab), ("math/bits.deBruijn64tab", laid_math_bits_deBruijn64tab), ("internal/strconv.uint64pow10", laid_internal_strconv_uint64pow10), ("strconv.ErrRange", laid_strconv_ErrRange), ("strconv.ErrSyntax", laid_strconv_ErrSyntax)], narrowed := true }
def SegmentRecoversUptoSaid : Prop := segmentRecoversUptoRow.holds Tryz.pinned (OpenSpec.upto segmentRecoversSpec)

end Rows
end Go.Proofs.YtbafnlccpbonmaaGreatDoor
