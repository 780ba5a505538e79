/-
  NARROWER THAN 'FOR EVERY INPUT', by the rows' own cells (each row's printed sentence says how): DecimalDivides: laid · DecimalNearest: laid · DecimalAdds: laid · DecimalMultiplies: laid · DecimalSums: laid · DecimalChecks: laid · DecimalOrders: laid · DecimalCompares: laid · DecimalRing: laid · DecimalTexts: laid · DecimalParses: laid.
  DERIVED. THE GIVEN ROWS OF THIS SEAT. 11 by the template 'for every input the law returns true; each argument reads behind the call as it read before'; 0 by the template 'total and deterministic' (their statements: YtoipapcbngknfaaDoorTotals.lean).
  GIVEN WITH THE SEED: the statements are not yours to turn. If you find one false, say at which input.
  Laid BY PROGRAM, IN A SANDBOX (cutbox-rows.mjs): the forced cells as the released guide's own fill.sh prints them over the translation 701485ee9d41b040… (all of the seat's roots in one cut). By AI agents, Wed Nov 11 2026. No macro, syntax, notation, axiom, sorry.
-/
import Derived.Test.YtoipapcbngknfaaDoorChecked
import GoSem.Claim
import GoSem.ClaimJoined
import GoSem.ClaimMapViews
import Derived.JoinedTies
import Derived.KernelRfl
namespace Go.Proofs.YtoipapcbngknfaaDoor
/- THE CELL 'sum', in the pinned program and in every row, IS THE sha256 OF THE DUMP (.gsa) THAT YtoipapcbngknfaaDoorProg.lean LOADS. Nothing in Lean hashes anything: it is a label: what it is worth is what the hold of that sum in a sandbox is worth. -/
noncomputable def Tryd.pinned : Pinned := { name := "ytoipapcbngknfaadoor", sum := "701485ee9d41b0406d258e869394ff1d7d8efb2d0d96cac3dfd172f9773ea16b", checked := Tryd.checked }
namespace Rows
def none {H : Type} : Left H := { results := [], args := [] }

/- WHAT THE LISTED PACKAGE-LEVEL VARIABLES READ AS WHEN THE CALL BEGINS. Each datum BY PROGRAM (the guide's laid-datum.mjs) off the statement by which the dump's own 'gosem.cut.vars' lays the variable. In a bare row this is a premise. The card (YtoipapcbngknfaaDoorCards.lean) ties it to the program's text. -/
def laid_math_bits_deBruijn32tab {H : Type} : DataW H := .agg [.lit (.int .u8 0), .lit (.int .u8 1), .lit (.int .u8 28), .lit (.int .u8 2), .lit (.int .u8 29), .lit (.int .u8 14), .lit (.int .u8 24), .lit (.int .u8 3), .lit (.int .u8 30), .lit (.int .u8 22), .lit (.int .u8 20), .lit (.int .u8 15), .lit (.int .u8 25), .lit (.int .u8 17), .lit (.int .u8 4), .lit (.int .u8 8), .lit (.int .u8 31), .lit (.int .u8 27), .lit (.int .u8 13), .lit (.int .u8 23), .lit (.int .u8 21), .lit (.int .u8 19), .lit (.int .u8 16), .lit (.int .u8 7), .lit (.int .u8 26), .lit (.int .u8 12), .lit (.int .u8 18), .lit (.int .u8 6), .lit (.int .u8 11), .lit (.int .u8 5), .lit (.int .u8 10), .lit (.int .u8 9)]
def laid_math_bits_deBruijn64tab {H : Type} : DataW H := .agg [.lit (.int .u8 0), .lit (.int .u8 1), .lit (.int .u8 56), .lit (.int .u8 2), .lit (.int .u8 57), .lit (.int .u8 49), .lit (.int .u8 28), .lit (.int .u8 3), .lit (.int .u8 61), .lit (.int .u8 58), .lit (.int .u8 42), .lit (.int .u8 50), .lit (.int .u8 38), .lit (.int .u8 29), .lit (.int .u8 17), .lit (.int .u8 4), .lit (.int .u8 62), .lit (.int .u8 47), .lit (.int .u8 59), .lit (.int .u8 36), .lit (.int .u8 45), .lit (.int .u8 43), .lit (.int .u8 51), .lit (.int .u8 22), .lit (.int .u8 53), .lit (.int .u8 39), .lit (.int .u8 33), .lit (.int .u8 30), .lit (.int .u8 24), .lit (.int .u8 18), .lit (.int .u8 12), .lit (.int .u8 5), .lit (.int .u8 63), .lit (.int .u8 55), .lit (.int .u8 48), .lit (.int .u8 27), .lit (.int .u8 60), .lit (.int .u8 41), .lit (.int .u8 37), .lit (.int .u8 16), .lit (.int .u8 46), .lit (.int .u8 35), .lit (.int .u8 44), .lit (.int .u8 21), .lit (.int .u8 52), .lit (.int .u8 32), .lit (.int .u8 23), .lit (.int .u8 11), .lit (.int .u8 54), .lit (.int .u8 26), .lit (.int .u8 40), .lit (.int .u8 15), .lit (.int .u8 34), .lit (.int .u8 20), .lit (.int .u8 31), .lit (.int .u8 10), .lit (.int .u8 25), .lit (.int .u8 14), .lit (.int .u8 19), .lit (.int .u8 9), .lit (.int .u8 13), .lit (.int .u8 8), .lit (.int .u8 7), .lit (.int .u8 6)]
def laid_internal_strconv_uint64pow10 {H : Type} : DataW H := .agg [.lit (.int .u64 1), .lit (.int .u64 10), .lit (.int .u64 100), .lit (.int .u64 1000), .lit (.int .u64 10000), .lit (.int .u64 100000), .lit (.int .u64 1000000), .lit (.int .u64 10000000), .lit (.int .u64 100000000), .lit (.int .u64 1000000000), .lit (.int .u64 10000000000), .lit (.int .u64 100000000000), .lit (.int .u64 1000000000000), .lit (.int .u64 10000000000000), .lit (.int .u64 100000000000000), .lit (.int .u64 1000000000000000), .lit (.int .u64 10000000000000000), .lit (.int .u64 100000000000000000), .lit (.int .u64 1000000000000000000), .lit (.int .u64 10000000000000000000)]
def laid_strconv_ErrRange {H : Type} : DataW H := .iface "*errors.errorString" (.ptr (.agg [.lit (.string [118, 97, 108, 117, 101, 32, 111, 117, 116, 32, 111, 102, 32, 114, 97, 110, 103, 101])]))
def laid_strconv_ErrSyntax {H : Type} : DataW H := .iface "*errors.errorString" (.ptr (.agg [.lit (.string [105, 110, 118, 97, 108, 105, 100, 32, 115, 121, 110, 116, 97, 120])]))

/-- 'manifoldlaw01.DecimalDivides': WHATEVER THE INPUT: true; the input reads as it did. -/
def decimalDividesSpec : ChangeSpec := { name := "decimalDivides", fn := fun _ => fun
  | [d1, d2, d3] => { results := [.lit (.bool true)], args := [d1, d2, d3] }
  | _ => none }
def decimalDividesRow : OpenClaim := { program := "ytoipapcbngknfaadoor", sum := "701485ee9d41b0406d258e869394ff1d7d8efb2d0d96cac3dfd172f9773ea16b", func := "manifold/manifoldlaw01.DecimalDivides", spec := "decimalDivides", inPlace := ["internal/abi.NoEscape", "internal/bytealg.MakeNoZero"], recurses := true, named := ["internal/strconv.uint64pow10", "math/bits.deBruijn32tab", "math/bits.deBruijn64tab"], apart := false, laid := [("math/bits.deBruijn32tab", laid_math_bits_deBruijn32tab), ("math/bits.deBruijn64tab", laid_math_bits_deBruijn64tab), ("internal/strconv.uint64pow10", laid_internal_strconv_uint64pow10)] }
def DecimalDividesSaid : Prop := decimalDividesRow.holds Tryd.pinned (OpenSpec.ofChange decimalDividesSpec)

/-- ITS FALSE NEIGHBOUR: 'it returns false'. Refute it at one input. -/
def decimalDividesWrong : ChangeSpec := { name := "decimalDivides", fn := fun _ => fun
  | [d1, d2, d3] => { results := [.lit (.bool false)], args := [d1, d2, d3] }
  | _ => none }
def DecimalDividesWrongFalsely : Prop := decimalDividesRow.holds Tryd.pinned (OpenSpec.ofChange decimalDividesWrong)

/-- 'manifoldlaw01.DecimalNearest': WHATEVER THE INPUT: true; the input reads as it did. -/
def decimalNearestSpec : ChangeSpec := { name := "decimalNearest", fn := fun _ => fun
  | [d1, d2] => { results := [.lit (.bool true)], args := [d1, d2] }
  | _ => none }
def decimalNearestRow : OpenClaim := { program := "ytoipapcbngknfaadoor", sum := "701485ee9d41b0406d258e869394ff1d7d8efb2d0d96cac3dfd172f9773ea16b", func := "manifold/manifoldlaw01.DecimalNearest", spec := "decimalNearest", inPlace := ["internal/abi.NoEscape", "internal/bytealg.MakeNoZero"], recurses := true, named := ["internal/strconv.uint64pow10", "math/bits.deBruijn32tab", "math/bits.deBruijn64tab"], apart := false, laid := [("math/bits.deBruijn32tab", laid_math_bits_deBruijn32tab), ("math/bits.deBruijn64tab", laid_math_bits_deBruijn64tab), ("internal/strconv.uint64pow10", laid_internal_strconv_uint64pow10)] }
def DecimalNearestSaid : Prop := decimalNearestRow.holds Tryd.pinned (OpenSpec.ofChange decimalNearestSpec)

/-- ITS FALSE NEIGHBOUR: 'it returns false'. Refute it at one input. -/
def decimalNearestWrong : ChangeSpec := { name := "decimalNearest", fn := fun _ => fun
  | [d1, d2] => { results := [.lit (.bool false)], args := [d1, d2] }
  | _ => none }
def DecimalNearestWrongFalsely : Prop := decimalNearestRow.holds Tryd.pinned (OpenSpec.ofChange decimalNearestWrong)

/-- 'manifoldlaw01.DecimalAdds': WHATEVER THE INPUT: true; the input reads as it did. -/
def decimalAddsSpec : ChangeSpec := { name := "decimalAdds", fn := fun _ => fun
  | [d1, d2] => { results := [.lit (.bool true)], args := [d1, d2] }
  | _ => none }
def decimalAddsRow : OpenClaim := { program := "ytoipapcbngknfaadoor", sum := "701485ee9d41b0406d258e869394ff1d7d8efb2d0d96cac3dfd172f9773ea16b", func := "manifold/manifoldlaw01.DecimalAdds", spec := "decimalAdds", inPlace := ["internal/abi.NoEscape", "internal/bytealg.MakeNoZero"], recurses := true, named := ["internal/strconv.uint64pow10", "math/bits.deBruijn32tab", "math/bits.deBruijn64tab"], apart := false, laid := [("math/bits.deBruijn32tab", laid_math_bits_deBruijn32tab), ("math/bits.deBruijn64tab", laid_math_bits_deBruijn64tab), ("internal/strconv.uint64pow10", laid_internal_strconv_uint64pow10)] }
def DecimalAddsSaid : Prop := decimalAddsRow.holds Tryd.pinned (OpenSpec.ofChange decimalAddsSpec)

/-- ITS FALSE NEIGHBOUR: 'it returns false'. Refute it at one input. -/
def decimalAddsWrong : ChangeSpec := { name := "decimalAdds", fn := fun _ => fun
  | [d1, d2] => { results := [.lit (.bool false)], args := [d1, d2] }
  | _ => none }
def DecimalAddsWrongFalsely : Prop := decimalAddsRow.holds Tryd.pinned (OpenSpec.ofChange decimalAddsWrong)

/-- 'manifoldlaw01.DecimalMultiplies': WHATEVER THE INPUT: true; the input reads as it did. -/
def decimalMultipliesSpec : ChangeSpec := { name := "decimalMultiplies", fn := fun _ => fun
  | [d1, d2] => { results := [.lit (.bool true)], args := [d1, d2] }
  | _ => none }
def decimalMultipliesRow : OpenClaim := { program := "ytoipapcbngknfaadoor", sum := "701485ee9d41b0406d258e869394ff1d7d8efb2d0d96cac3dfd172f9773ea16b", func := "manifold/manifoldlaw01.DecimalMultiplies", spec := "decimalMultiplies", inPlace := ["internal/abi.NoEscape", "internal/bytealg.MakeNoZero"], named := ["internal/strconv.uint64pow10", "math/bits.deBruijn32tab", "math/bits.deBruijn64tab"], apart := false, laid := [("math/bits.deBruijn32tab", laid_math_bits_deBruijn32tab), ("math/bits.deBruijn64tab", laid_math_bits_deBruijn64tab), ("internal/strconv.uint64pow10", laid_internal_strconv_uint64pow10)] }
def DecimalMultipliesSaid : Prop := decimalMultipliesRow.holds Tryd.pinned (OpenSpec.ofChange decimalMultipliesSpec)

/-- ITS FALSE NEIGHBOUR: 'it returns false'. Refute it at one input. -/
def decimalMultipliesWrong : ChangeSpec := { name := "decimalMultiplies", fn := fun _ => fun
  | [d1, d2] => { results := [.lit (.bool false)], args := [d1, d2] }
  | _ => none }
def DecimalMultipliesWrongFalsely : Prop := decimalMultipliesRow.holds Tryd.pinned (OpenSpec.ofChange decimalMultipliesWrong)

/-- 'manifoldlaw01.DecimalSums': WHATEVER THE INPUT: true; the input reads as it did. -/
def decimalSumsSpec : ChangeSpec := { name := "decimalSums", fn := fun _ => fun
  | [d1, d2] => { results := [.lit (.bool true)], args := [d1, d2] }
  | _ => none }
def decimalSumsRow : OpenClaim := { program := "ytoipapcbngknfaadoor", sum := "701485ee9d41b0406d258e869394ff1d7d8efb2d0d96cac3dfd172f9773ea16b", func := "manifold/manifoldlaw01.DecimalSums", spec := "decimalSums", inPlace := ["internal/abi.NoEscape", "internal/bytealg.MakeNoZero"], recurses := true, named := ["internal/strconv.uint64pow10", "math/bits.deBruijn32tab", "math/bits.deBruijn64tab"], apart := false, laid := [("math/bits.deBruijn32tab", laid_math_bits_deBruijn32tab), ("math/bits.deBruijn64tab", laid_math_bits_deBruijn64tab), ("internal/strconv.uint64pow10", laid_internal_strconv_uint64pow10)] }
def DecimalSumsSaid : Prop := decimalSumsRow.holds Tryd.pinned (OpenSpec.ofChange decimalSumsSpec)

/-- ITS FALSE NEIGHBOUR: 'it returns false'. Refute it at one input. -/
def decimalSumsWrong : ChangeSpec := { name := "decimalSums", fn := fun _ => fun
  | [d1, d2] => { results := [.lit (.bool false)], args := [d1, d2] }
  | _ => none }
def DecimalSumsWrongFalsely : Prop := decimalSumsRow.holds Tryd.pinned (OpenSpec.ofChange decimalSumsWrong)

/-- 'manifoldlaw01.DecimalChecks': WHATEVER THE INPUT: true; the input reads as it did. -/
def decimalChecksSpec : ChangeSpec := { name := "decimalChecks", fn := fun _ => fun
  | [d] => { results := [.lit (.bool true)], args := [d] }
  | _ => none }
def decimalChecksRow : OpenClaim := { program := "ytoipapcbngknfaadoor", sum := "701485ee9d41b0406d258e869394ff1d7d8efb2d0d96cac3dfd172f9773ea16b", func := "manifold/manifoldlaw01.DecimalChecks", spec := "decimalChecks", inPlace := ["internal/abi.NoEscape", "internal/bytealg.MakeNoZero"], named := ["internal/strconv.uint64pow10", "math/bits.deBruijn32tab", "math/bits.deBruijn64tab"], apart := false, laid := [("math/bits.deBruijn32tab", laid_math_bits_deBruijn32tab), ("math/bits.deBruijn64tab", laid_math_bits_deBruijn64tab), ("internal/strconv.uint64pow10", laid_internal_strconv_uint64pow10)] }
def DecimalChecksSaid : Prop := decimalChecksRow.holds Tryd.pinned (OpenSpec.ofChange decimalChecksSpec)

/-- ITS FALSE NEIGHBOUR: 'it returns false'. Refute it at one input. -/
def decimalChecksWrong : ChangeSpec := { name := "decimalChecks", fn := fun _ => fun
  | [d] => { results := [.lit (.bool false)], args := [d] }
  | _ => none }
def DecimalChecksWrongFalsely : Prop := decimalChecksRow.holds Tryd.pinned (OpenSpec.ofChange decimalChecksWrong)

/-- 'manifoldlaw01.DecimalOrders': WHATEVER THE INPUT: true; the input reads as it did. -/
def decimalOrdersSpec : ChangeSpec := { name := "decimalOrders", fn := fun _ => fun
  | [d1, d2, d3] => { results := [.lit (.bool true)], args := [d1, d2, d3] }
  | _ => none }
def decimalOrdersRow : OpenClaim := { program := "ytoipapcbngknfaadoor", sum := "701485ee9d41b0406d258e869394ff1d7d8efb2d0d96cac3dfd172f9773ea16b", func := "manifold/manifoldlaw01.DecimalOrders", spec := "decimalOrders", inPlace := ["internal/abi.NoEscape", "internal/bytealg.MakeNoZero"], named := ["internal/strconv.uint64pow10", "math/bits.deBruijn32tab", "math/bits.deBruijn64tab"], apart := false, laid := [("math/bits.deBruijn32tab", laid_math_bits_deBruijn32tab), ("math/bits.deBruijn64tab", laid_math_bits_deBruijn64tab), ("internal/strconv.uint64pow10", laid_internal_strconv_uint64pow10)] }
def DecimalOrdersSaid : Prop := decimalOrdersRow.holds Tryd.pinned (OpenSpec.ofChange decimalOrdersSpec)

/-- ITS FALSE NEIGHBOUR: 'it returns false'. Refute it at one input. -/
def decimalOrdersWrong : ChangeSpec := { name := "decimalOrders", fn := fun _ => fun
  | [d1, d2, d3] => { results := [.lit (.bool false)], args := [d1, d2, d3] }
  | _ => none }
def DecimalOrdersWrongFalsely : Prop := decimalOrdersRow.holds Tryd.pinned (OpenSpec.ofChange decimalOrdersWrong)

/-- 'manifoldlaw01.DecimalCompares': WHATEVER THE INPUT: true; the input reads as it did. -/
def decimalComparesSpec : ChangeSpec := { name := "decimalCompares", fn := fun _ => fun
  | [d1, d2] => { results := [.lit (.bool true)], args := [d1, d2] }
  | _ => none }
def decimalComparesRow : OpenClaim := { program := "ytoipapcbngknfaadoor", sum := "701485ee9d41b0406d258e869394ff1d7d8efb2d0d96cac3dfd172f9773ea16b", func := "manifold/manifoldlaw01.DecimalCompares", spec := "decimalCompares", inPlace := ["internal/abi.NoEscape", "internal/bytealg.MakeNoZero"], named := ["internal/strconv.uint64pow10", "math/bits.deBruijn32tab", "math/bits.deBruijn64tab"], apart := false, laid := [("math/bits.deBruijn32tab", laid_math_bits_deBruijn32tab), ("math/bits.deBruijn64tab", laid_math_bits_deBruijn64tab), ("internal/strconv.uint64pow10", laid_internal_strconv_uint64pow10)] }
def DecimalComparesSaid : Prop := decimalComparesRow.holds Tryd.pinned (OpenSpec.ofChange decimalComparesSpec)

/-- ITS FALSE NEIGHBOUR: 'it returns false'. Refute it at one input. -/
def decimalComparesWrong : ChangeSpec := { name := "decimalCompares", fn := fun _ => fun
  | [d1, d2] => { results := [.lit (.bool false)], args := [d1, d2] }
  | _ => none }
def DecimalComparesWrongFalsely : Prop := decimalComparesRow.holds Tryd.pinned (OpenSpec.ofChange decimalComparesWrong)

/-- 'manifoldlaw01.DecimalRing': WHATEVER THE INPUT: true; the input reads as it did. -/
def decimalRingSpec : ChangeSpec := { name := "decimalRing", fn := fun _ => fun
  | [d1, d2, d3] => { results := [.lit (.bool true)], args := [d1, d2, d3] }
  | _ => none }
def decimalRingRow : OpenClaim := { program := "ytoipapcbngknfaadoor", sum := "701485ee9d41b0406d258e869394ff1d7d8efb2d0d96cac3dfd172f9773ea16b", func := "manifold/manifoldlaw01.DecimalRing", spec := "decimalRing", inPlace := ["internal/abi.NoEscape", "internal/bytealg.MakeNoZero"], named := ["internal/strconv.uint64pow10", "math/bits.deBruijn32tab", "math/bits.deBruijn64tab"], apart := false, laid := [("math/bits.deBruijn32tab", laid_math_bits_deBruijn32tab), ("math/bits.deBruijn64tab", laid_math_bits_deBruijn64tab), ("internal/strconv.uint64pow10", laid_internal_strconv_uint64pow10)] }
def DecimalRingSaid : Prop := decimalRingRow.holds Tryd.pinned (OpenSpec.ofChange decimalRingSpec)

/-- ITS FALSE NEIGHBOUR: 'it returns false'. Refute it at one input. -/
def decimalRingWrong : ChangeSpec := { name := "decimalRing", fn := fun _ => fun
  | [d1, d2, d3] => { results := [.lit (.bool false)], args := [d1, d2, d3] }
  | _ => none }
def DecimalRingWrongFalsely : Prop := decimalRingRow.holds Tryd.pinned (OpenSpec.ofChange decimalRingWrong)

/-- 'manifoldlaw01.DecimalTexts': WHATEVER THE INPUT: true; the input reads as it did. -/
def decimalTextsSpec : ChangeSpec := { name := "decimalTexts", fn := fun _ => fun
  | [d] => { results := [.lit (.bool true)], args := [d] }
  | _ => none }
def decimalTextsRow : OpenClaim := { program := "ytoipapcbngknfaadoor", sum := "701485ee9d41b0406d258e869394ff1d7d8efb2d0d96cac3dfd172f9773ea16b", func := "manifold/manifoldlaw01.DecimalTexts", spec := "decimalTexts", inPlace := ["internal/abi.NoEscape", "internal/bytealg.MakeNoZero", "internal/bytealg.IndexByteString", "internal/bytealg.IndexString"], named := ["internal/strconv.uint64pow10", "math/bits.deBruijn32tab", "math/bits.deBruijn64tab", "internal/bytealg.MaxLen", "strconv.ErrSyntax", "strconv.ErrRange"], apart := false, laid := [("math/bits.deBruijn32tab", laid_math_bits_deBruijn32tab), ("math/bits.deBruijn64tab", laid_math_bits_deBruijn64tab), ("internal/strconv.uint64pow10", laid_internal_strconv_uint64pow10), ("strconv.ErrRange", laid_strconv_ErrRange), ("strconv.ErrSyntax", laid_strconv_ErrSyntax)] }
def DecimalTextsSaid : Prop := decimalTextsRow.holds Tryd.pinned (OpenSpec.ofChange decimalTextsSpec)

/-- ITS FALSE NEIGHBOUR: 'it returns false'. Refute it at one input. -/
def decimalTextsWrong : ChangeSpec := { name := "decimalTexts", fn := fun _ => fun
  | [d] => { results := [.lit (.bool false)], args := [d] }
  | _ => none }
def DecimalTextsWrongFalsely : Prop := decimalTextsRow.holds Tryd.pinned (OpenSpec.ofChange decimalTextsWrong)

/-- 'manifoldlaw01.DecimalParses': WHATEVER THE INPUT: true; the input reads as it did. -/
def decimalParsesSpec : ChangeSpec := { name := "decimalParses", fn := fun _ => fun
  | [d] => { results := [.lit (.bool true)], args := [d] }
  | _ => none }
def decimalParsesRow : OpenClaim := { program := "ytoipapcbngknfaadoor", sum := "701485ee9d41b0406d258e869394ff1d7d8efb2d0d96cac3dfd172f9773ea16b", func := "manifold/manifoldlaw01.DecimalParses", spec := "decimalParses", inPlace := ["internal/bytealg.IndexByteString", "internal/bytealg.IndexString", "internal/abi.NoEscape", "internal/bytealg.MakeNoZero"], named := ["internal/bytealg.MaxLen", "strconv.ErrSyntax", "strconv.ErrRange", "internal/strconv.uint64pow10", "math/bits.deBruijn32tab", "math/bits.deBruijn64tab"], apart := false, laid := [("math/bits.deBruijn32tab", laid_math_bits_deBruijn32tab), ("math/bits.deBruijn64tab", laid_math_bits_deBruijn64tab), ("internal/strconv.uint64pow10", laid_internal_strconv_uint64pow10), ("strconv.ErrRange", laid_strconv_ErrRange), ("strconv.ErrSyntax", laid_strconv_ErrSyntax)] }
def DecimalParsesSaid : Prop := decimalParsesRow.holds Tryd.pinned (OpenSpec.ofChange decimalParsesSpec)

/-- ITS FALSE NEIGHBOUR: 'it returns false'. Refute it at one input. -/
def decimalParsesWrong : ChangeSpec := { name := "decimalParses", fn := fun _ => fun
  | [d] => { results := [.lit (.bool false)], args := [d] }
  | _ => none }
def DecimalParsesWrongFalsely : Prop := decimalParsesRow.holds Tryd.pinned (OpenSpec.ofChange decimalParsesWrong)

/- THE SECOND FORM. 'bulk': how many values and letters a reading holds, each counted each time it is reached (what is shared counts as often as it is met; a slice's spare places count too). A statement '..UptoSaid' is the law's where the arguments, and the package variables that the reading takes, are together of bulk at most 1048576: NARROWER than '..Said'. Prove '..Said' where nothing that the law and all that it calls make is longer than what came in: it says more and counts as full. Else prove '..UptoSaid'. A law counts once. -/
mutual
def uptoBulk {H : Type} : DataW H → Nat
  | .lit (.string bytes) => bytes.length + 1
  | .lit _ => 1
  | .nil => 1
  | .ptr d => uptoBulk d + 1
  | .slice elems spare => uptoBulkAll elems + uptoBulkAll spare + 1
  | .agg parts => uptoBulkAll parts + 1
  | .iface _ d => uptoBulk d + 1
  | .map entries => uptoBulkEntries entries + 1
  | .held _ => 1
def uptoBulkAll {H : Type} : List (DataW H) → Nat
  | [] => 0
  | d :: r => uptoBulk d + uptoBulkAll r
def uptoBulkEntries {H : Type} : List (Lit × DataW H) → Nat
  | [] => 0
  | x :: r => uptoBulkEntry x + uptoBulkEntries r
def uptoBulkEntry {H : Type} : Lit × DataW H → Nat
  | (.string bytes, d) => bytes.length + uptoBulk d + 1
  | (_, d) => uptoBulk d + 1
 end
def uptoSmall : (H : Type) → List (DataW H) → Bool := fun _ ds => decide (uptoBulkAll ds ≤ 1048576)
def OpenSpec.upto (s : _root_.Go.ChangeSpec) : _root_.Go.OpenSpec := { _root_.Go.OpenSpec.ofChange s with cond := some uptoSmall }

/-- 'manifoldlaw01.DecimalDivides', WHERE WHAT IT READS IS OF BULK AT MOST 1048576: true; the input reads as it did. -/
def decimalDividesUptoRow : OpenClaim := { program := "ytoipapcbngknfaadoor", sum := "701485ee9d41b0406d258e869394ff1d7d8efb2d0d96cac3dfd172f9773ea16b", func := "manifold/manifoldlaw01.DecimalDivides", spec := "decimalDivides", inPlace := ["internal/abi.NoEscape", "internal/bytealg.MakeNoZero"], recurses := true, named := ["internal/strconv.uint64pow10", "math/bits.deBruijn32tab", "math/bits.deBruijn64tab"], apart := false, laid := [("math/bits.deBruijn32tab", laid_math_bits_deBruijn32tab), ("math/bits.deBruijn64tab", laid_math_bits_deBruijn64tab), ("internal/strconv.uint64pow10", laid_internal_strconv_uint64pow10)], narrowed := true }
def DecimalDividesUptoSaid : Prop := decimalDividesUptoRow.holds Tryd.pinned (OpenSpec.upto decimalDividesSpec)

/-- 'manifoldlaw01.DecimalNearest', WHERE WHAT IT READS IS OF BULK AT MOST 1048576: true; the input reads as it did. -/
def decimalNearestUptoRow : OpenClaim := { program := "ytoipapcbngknfaadoor", sum := "701485ee9d41b0406d258e869394ff1d7d8efb2d0d96cac3dfd172f9773ea16b", func := "manifold/manifoldlaw01.DecimalNearest", spec := "decimalNearest", inPlace := ["internal/abi.NoEscape", "internal/bytealg.MakeNoZero"], recurses := true, named := ["internal/strconv.uint64pow10", "math/bits.deBruijn32tab", "math/bits.deBruijn64tab"], apart := false, laid := [("math/bits.deBruijn32tab", laid_math_bits_deBruijn32tab), ("math/bits.deBruijn64tab", laid_math_bits_deBruijn64tab), ("internal/strconv.uint64pow10", laid_internal_strconv_uint64pow10)], narrowed := true }
def DecimalNearestUptoSaid : Prop := decimalNearestUptoRow.holds Tryd.pinned (OpenSpec.upto decimalNearestSpec)

/-- 'manifoldlaw01.DecimalAdds', WHERE WHAT IT READS IS OF BULK AT MOST 1048576: true; the input reads as it did. -/
def decimalAddsUptoRow : OpenClaim := { program := "ytoipapcbngknfaadoor", sum := "701485ee9d41b0406d258e869394ff1d7d8efb2d0d96cac3dfd172f9773ea16b", func := "manifold/manifoldlaw01.DecimalAdds", spec := "decimalAdds", inPlace := ["internal/abi.NoEscape", "internal/bytealg.MakeNoZero"], recurses := true, named := ["internal/strconv.uint64pow10", "math/bits.deBruijn32tab", "math/bits.deBruijn64tab"], apart := false, laid := [("math/bits.deBruijn32tab", laid_math_bits_deBruijn32tab), ("math/bits.deBruijn64tab", laid_math_bits_deBruijn64tab), ("internal/strconv.uint64pow10", laid_internal_strconv_uint64pow10)], narrowed := true }
def DecimalAddsUptoSaid : Prop := decimalAddsUptoRow.holds Tryd.pinned (OpenSpec.upto decimalAddsSpec)

/-- 'manifoldlaw01.DecimalMultiplies', WHERE WHAT IT READS IS OF BULK AT MOST 1048576: true; the input reads as it did. -/
def decimalMultipliesUptoRow : OpenClaim := { program := "ytoipapcbngknfaadoor", sum := "701485ee9d41b0406d258e869394ff1d7d8efb2d0d96cac3dfd172f9773ea16b", func := "manifold/manifoldlaw01.DecimalMultiplies", spec := "decimalMultiplies", inPlace := ["internal/abi.NoEscape", "internal/bytealg.MakeNoZero"], named := ["internal/strconv.uint64pow10", "math/bits.deBruijn32tab", "math/bits.deBruijn64tab"], apart := false, laid := [("math/bits.deBruijn32tab", laid_math_bits_deBruijn32tab), ("math/bits.deBruijn64tab", laid_math_bits_deBruijn64tab), ("internal/strconv.uint64pow10", laid_internal_strconv_uint64pow10)], narrowed := true }
def DecimalMultipliesUptoSaid : Prop := decimalMultipliesUptoRow.holds Tryd.pinned (OpenSpec.upto decimalMultipliesSpec)

/-- 'manifoldlaw01.DecimalSums', WHERE WHAT IT READS IS OF BULK AT MOST 1048576: true; the input reads as it did. -/
def decimalSumsUptoRow : OpenClaim := { program := "ytoipapcbngknfaadoor", sum := "701485ee9d41b0406d258e869394ff1d7d8efb2d0d96cac3dfd172f9773ea16b", func := "manifold/manifoldlaw01.DecimalSums", spec := "decimalSums", inPlace := ["internal/abi.NoEscape", "internal/bytealg.MakeNoZero"], recurses := true, named := ["internal/strconv.uint64pow10", "math/bits.deBruijn32tab", "math/bits.deBruijn64tab"], apart := false, laid := [("math/bits.deBruijn32tab", laid_math_bits_deBruijn32tab), ("math/bits.deBruijn64tab", laid_math_bits_deBruijn64tab), ("internal/strconv.uint64pow10", laid_internal_strconv_uint64pow10)], narrowed := true }
def DecimalSumsUptoSaid : Prop := decimalSumsUptoRow.holds Tryd.pinned (OpenSpec.upto decimalSumsSpec)

/-- 'manifoldlaw01.DecimalChecks', WHERE WHAT IT READS IS OF BULK AT MOST 1048576: true; the input reads as it did. -/
def decimalChecksUptoRow : OpenClaim := { program := "ytoipapcbngknfaadoor", sum := "701485ee9d41b0406d258e869394ff1d7d8efb2d0d96cac3dfd172f9773ea16b", func := "manifold/manifoldlaw01.DecimalChecks", spec := "decimalChecks", inPlace := ["internal/abi.NoEscape", "internal/bytealg.MakeNoZero"], named := ["internal/strconv.uint64pow10", "math/bits.deBruijn32tab", "math/bits.deBruijn64tab"], apart := false, laid := [("math/bits.deBruijn32tab", laid_math_bits_deBruijn32tab), ("math/bits.deBruijn64tab", laid_math_bits_deBruijn64tab), ("internal/strconv.uint64pow10", laid_internal_strconv_uint64pow10)], narrowed := true }
def DecimalChecksUptoSaid : Prop := decimalChecksUptoRow.holds Tryd.pinned (OpenSpec.upto decimalChecksSpec)

/-- 'manifoldlaw01.DecimalOrders', WHERE WHAT IT READS IS OF BULK AT MOST 1048576: true; the input reads as it did. -/
def decimalOrdersUptoRow : OpenClaim := { program := "ytoipapcbngknfaadoor", sum := "701485ee9d41b0406d258e869394ff1d7d8efb2d0d96cac3dfd172f9773ea16b", func := "manifold/manifoldlaw01.DecimalOrders", spec := "decimalOrders", inPlace := ["internal/abi.NoEscape", "internal/bytealg.MakeNoZero"], named := ["internal/strconv.uint64pow10", "math/bits.deBruijn32tab", "math/bits.deBruijn64tab"], apart := false, laid := [("math/bits.deBruijn32tab", laid_math_bits_deBruijn32tab), ("math/bits.deBruijn64tab", laid_math_bits_deBruijn64tab), ("internal/strconv.uint64pow10", laid_internal_strconv_uint64pow10)], narrowed := true }
def DecimalOrdersUptoSaid : Prop := decimalOrdersUptoRow.holds Tryd.pinned (OpenSpec.upto decimalOrdersSpec)

/-- 'manifoldlaw01.DecimalCompares', WHERE WHAT IT READS IS OF BULK AT MOST 1048576: true; the input reads as it did. -/
def decimalComparesUptoRow : OpenClaim := { program := "ytoipapcbngknfaadoor", sum := "701485ee9d41b0406d258e869394ff1d7d8efb2d0d96cac3dfd172f9773ea16b", func := "manifold/manifoldlaw01.DecimalCompares", spec := "decimalCompares", inPlace := ["internal/abi.NoEscape", "internal/bytealg.MakeNoZero"], named := ["internal/strconv.uint64pow10", "math/bits.deBruijn32tab", "math/bits.deBruijn64tab"], apart := false, laid := [("math/bits.deBruijn32tab", laid_math_bits_deBruijn32tab), ("math/bits.deBruijn64tab", laid_math_bits_deBruijn64tab), ("internal/strconv.uint64pow10", laid_internal_strconv_uint64pow10)], narrowed := true }
def DecimalComparesUptoSaid : Prop := decimalComparesUptoRow.holds Tryd.pinned (OpenSpec.upto decimalComparesSpec)

/-- 'manifoldlaw01.DecimalRing', WHERE WHAT IT READS IS OF BULK AT MOST 1048576: true; the input reads as it did. -/
def decimalRingUptoRow : OpenClaim := { program := "ytoipapcbngknfaadoor", sum := "701485ee9d41b0406d258e869394ff1d7d8efb2d0d96cac3dfd172f9773ea16b", func := "manifold/manifoldlaw01.DecimalRing", spec := "decimalRing", inPlace := ["internal/abi.NoEscape", "internal/bytealg.MakeNoZero"], named := ["internal/strconv.uint64pow10", "math/bits.deBruijn32tab", "math/bits.deBruijn64tab"], apart := false, laid := [("math/bits.deBruijn32tab", laid_math_bits_deBruijn32tab), ("math/bits.deBruijn64tab", laid_math_bits_deBruijn64tab), ("internal/strconv.uint64pow10", laid_internal_strconv_uint64pow10)], narrowed := true }
def DecimalRingUptoSaid : Prop := decimalRingUptoRow.holds Tryd.pinned (OpenSpec.upto decimalRingSpec)

/-- 'manifoldlaw01.DecimalTexts', WHERE WHAT IT READS IS OF BULK AT MOST 1048576: true; the input reads as it did. -/
def decimalTextsUptoRow : OpenClaim := { program := "ytoipapcbngknfaadoor", sum := "701485ee9d41b0406d258e869394ff1d7d8efb2d0d96cac3dfd172f9773ea16b", func := "manifold/manifoldlaw01.DecimalTexts", spec := "decimalTexts", inPlace := ["internal/abi.NoEscape", "internal/bytealg.MakeNoZero", "internal/bytealg.IndexByteString", "internal/bytealg.IndexString"], named := ["internal/strconv.uint64pow10", "math/bits.deBruijn32tab", "math/bits.deBruijn64tab", "internal/bytealg.MaxLen", "strconv.ErrSyntax", "strconv.ErrRange"], apart := false, laid := [("math/bits.deBruijn32tab", laid_math_bits_deBruijn32tab), ("math/bits.deBruijn64tab", laid_math_bits_deBruijn64tab), ("internal/strconv.uint64pow10", laid_internal_strconv_uint64pow10), ("strconv.ErrRange", laid_strconv_ErrRange), ("strconv.ErrSyntax", laid_strconv_ErrSyntax)], narrowed := true }
def DecimalTextsUptoSaid : Prop := decimalTextsUptoRow.holds Tryd.pinned (OpenSpec.upto decimalTextsSpec)

/-- 'manifoldlaw01.DecimalParses', WHERE WHAT IT READS IS OF BULK AT MOST 1048576: true; the input reads as it did. -/
def decimalParsesUptoRow : OpenClaim := { program := "ytoipapcbngknfaadoor", sum := "701485ee9d41b0406d258e869394ff1d7d8efb2d0d96cac3dfd172f9773ea16b", func := "manifold/manifoldlaw01.DecimalParses", spec := "decimalParses", inPlace := ["internal/bytealg.IndexByteString", "internal/bytealg.IndexString", "internal/abi.NoEscape", "internal/bytealg.MakeNoZero"], named := ["internal/bytealg.MaxLen", "strconv.ErrSyntax", "strconv.ErrRange", "internal/strconv.uint64pow10", "math/bits.deBruijn32tab", "math/bits.deBruijn64tab"], apart := false, laid := [("math/bits.deBruijn32tab", laid_math_bits_deBruijn32tab), ("math/bits.deBruijn64tab", laid_math_bits_deBruijn64tab), ("internal/strconv.uint64pow10", laid_internal_strconv_uint64pow10), ("strconv.ErrRange", laid_strconv_ErrRange), ("strconv.ErrSyntax", laid_strconv_ErrSyntax)], narrowed := true }
def DecimalParsesUptoSaid : Prop := decimalParsesUptoRow.holds Tryd.pinned (OpenSpec.upto decimalParsesSpec)

end Rows
end Go.Proofs.YtoipapcbngknfaaDoor
