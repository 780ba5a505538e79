/-
  DERIVED. GIVEN WITH THE SEED: THE CARDS: each row of YtbafnlccpbonmaaGreatDoorRows.lean that lists a variable, with what it lists TIED to the program's text (the seventh form; the later family's looks); each row that meets fmt, with fmt's text TOLD by the authors' own Lean function (tested against real Go, not proved from fmt's source: count such statements apart). THE CARD IS WHAT COUNTS. Prove the row's statement (the work); the ties are given (YtbafnlccpbonmaaGreatDoorTie.lean); close each card by the builder's one call (the guide's Derived/Test/ToyasCard.lean, 'card_holds'). Laid BY PROGRAM, IN A SANDBOX (cutbox-door.mjs). By AI agents, Wed Nov 11 2026. No macro, syntax, notation, axiom, sorry.
-/
import Derived.Test.YtbafnlccpbonmaaGreatDoorRows
import GoSem.ClaimSeven
namespace Go.Proofs.YtbafnlccpbonmaaGreatDoor
namespace Rows

/-- THE TIED CARD OF 'manifoldlaw45.SegmentFrames'. -/
def segmentFramesCard : Claim7 := { stood := { row := segmentFramesRow, standIns := [], harness := (true, "315fb01e6af0265552ce05a12dcc78f1d30f5b7e0d8b0a73699349de45baed2e"), looks := true }, kinds := [], alts := [], laidByText := true, laidKinds := [.data, .data, .data, .sentinel, .sentinel], laidTests := true, laidLooks := .later }
def SegmentFramesCardSaid : Prop := Claim7.holds Tryz.pinned (.plain (OpenSpec.ofChange segmentFramesSpec)) segmentFramesCard

/-- THE TIED CARD OF 'manifoldlaw45.SegmentParses'. -/
def segmentParsesCard : Claim7 := { stood := { row := segmentParsesRow, standIns := [], harness := (true, "315fb01e6af0265552ce05a12dcc78f1d30f5b7e0d8b0a73699349de45baed2e"), looks := true }, kinds := [], alts := [], laidByText := true, laidKinds := [.data, .data, .data, .sentinel, .sentinel], laidTests := true, laidLooks := .later }
def SegmentParsesCardSaid : Prop := Claim7.holds Tryz.pinned (.plain (OpenSpec.ofChange segmentParsesSpec)) segmentParsesCard

/-- THE TIED CARD OF 'manifoldlaw45.SegmentDetects'. -/
def segmentDetectsCard : Claim7 := { stood := { row := segmentDetectsRow, standIns := [], harness := (true, "315fb01e6af0265552ce05a12dcc78f1d30f5b7e0d8b0a73699349de45baed2e"), looks := true }, kinds := [], alts := [], laidByText := true, laidKinds := [.data, .data, .data, .sentinel, .sentinel], laidTests := true, laidLooks := .later }
def SegmentDetectsCardSaid : Prop := Claim7.holds Tryz.pinned (.plain (OpenSpec.ofChange segmentDetectsSpec)) segmentDetectsCard

/-- THE TIED CARD OF 'manifoldlaw45.SegmentFiles'. -/
def segmentFilesCard : Claim7 := { stood := { row := segmentFilesRow, standIns := [], harness := (true, "315fb01e6af0265552ce05a12dcc78f1d30f5b7e0d8b0a73699349de45baed2e"), looks := true }, kinds := [], alts := [], laidByText := true, laidKinds := [.data, .data, .data, .sentinel, .sentinel], laidTests := true, laidLooks := .later }
def SegmentFilesCardSaid : Prop := Claim7.holds Tryz.pinned (.plain (OpenSpec.ofChange segmentFilesSpec)) segmentFilesCard

/-- THE TIED CARD OF 'manifoldlaw45.SegmentDamages'. -/
def segmentDamagesCard : Claim7 := { stood := { row := segmentDamagesRow, standIns := [], harness := (true, "315fb01e6af0265552ce05a12dcc78f1d30f5b7e0d8b0a73699349de45baed2e"), looks := true }, kinds := [], alts := [], laidByText := true, laidKinds := [.data, .data, .data, .sentinel, .sentinel], laidTests := true, laidLooks := .later }
def SegmentDamagesCardSaid : Prop := Claim7.holds Tryz.pinned (.plain (OpenSpec.ofChange segmentDamagesSpec)) segmentDamagesCard

/-- THE TIED CARD OF 'manifoldlaw45.SegmentLogs'. -/
def segmentLogsCard : Claim7 := { stood := { row := segmentLogsRow, standIns := [], harness := (true, "315fb01e6af0265552ce05a12dcc78f1d30f5b7e0d8b0a73699349de45baed2e"), looks := true }, kinds := [], alts := [], laidByText := true, laidKinds := [.data, .data, .data, .sentinel, .sentinel], laidTests := true, laidLooks := .later }
def SegmentLogsCardSaid : Prop := Claim7.holds Tryz.pinned (.plain (OpenSpec.ofChange segmentLogsSpec)) segmentLogsCard

/-- THE TIED CARD OF 'manifoldlaw45.SegmentApart'. -/
def segmentApartCard : Claim7 := { stood := { row := segmentApartRow, standIns := [], harness := (true, "315fb01e6af0265552ce05a12dcc78f1d30f5b7e0d8b0a73699349de45baed2e"), looks := true }, kinds := [], alts := [], laidByText := true, laidKinds := [.data, .data, .data, .sentinel, .sentinel], laidTests := true, laidLooks := .later }
def SegmentApartCardSaid : Prop := Claim7.holds Tryz.pinned (.plain (OpenSpec.ofChange segmentApartSpec)) segmentApartCard

/-- THE TIED CARD OF 'manifoldlaw45.SegmentErrors'. -/
def segmentErrorsCard : Claim7 := { stood := { row := segmentErrorsRow, standIns := [], harness := (true, "315fb01e6af0265552ce05a12dcc78f1d30f5b7e0d8b0a73699349de45baed2e"), looks := true }, kinds := [], alts := [], laidByText := true, laidKinds := [.data, .data, .data, .sentinel, .sentinel], laidTests := true, laidLooks := .later }
def SegmentErrorsCardSaid : Prop := Claim7.holds Tryz.pinned (.plain (OpenSpec.ofChange segmentErrorsSpec)) segmentErrorsCard

/-- THE TIED CARD OF 'manifoldlaw45.SegmentRecovers'. -/
def segmentRecoversCard : Claim7 := { stood := { row := segmentRecoversRow, standIns := [], harness := (true, "315fb01e6af0265552ce05a12dcc78f1d30f5b7e0d8b0a73699349de45baed2e"), looks := true }, kinds := [], alts := [], laidByText := true, laidKinds := [.data, .data, .data, .sentinel, .sentinel], laidTests := true, laidLooks := .later }
def SegmentRecoversCardSaid : Prop := Claim7.holds Tryz.pinned (.plain (OpenSpec.ofChange segmentRecoversSpec)) segmentRecoversCard

/-- THE SECOND FORM's CARD OF 'manifoldlaw45.SegmentFrames'. -/
def segmentFramesUptoCard : Claim7 := { stood := { row := segmentFramesUptoRow, standIns := [], harness := (true, "315fb01e6af0265552ce05a12dcc78f1d30f5b7e0d8b0a73699349de45baed2e"), looks := true }, kinds := [], alts := [], laidByText := true, laidKinds := [.data, .data, .data, .sentinel, .sentinel], laidTests := true, laidLooks := .later }
def SegmentFramesUptoCardSaid : Prop := Claim7.holds Tryz.pinned (.plain (OpenSpec.upto segmentFramesSpec)) segmentFramesUptoCard

/-- THE SECOND FORM's CARD OF 'manifoldlaw45.SegmentParses'. -/
def segmentParsesUptoCard : Claim7 := { stood := { row := segmentParsesUptoRow, standIns := [], harness := (true, "315fb01e6af0265552ce05a12dcc78f1d30f5b7e0d8b0a73699349de45baed2e"), looks := true }, kinds := [], alts := [], laidByText := true, laidKinds := [.data, .data, .data, .sentinel, .sentinel], laidTests := true, laidLooks := .later }
def SegmentParsesUptoCardSaid : Prop := Claim7.holds Tryz.pinned (.plain (OpenSpec.upto segmentParsesSpec)) segmentParsesUptoCard

/-- THE SECOND FORM's CARD OF 'manifoldlaw45.SegmentDetects'. -/
def segmentDetectsUptoCard : Claim7 := { stood := { row := segmentDetectsUptoRow, standIns := [], harness := (true, "315fb01e6af0265552ce05a12dcc78f1d30f5b7e0d8b0a73699349de45baed2e"), looks := true }, kinds := [], alts := [], laidByText := true, laidKinds := [.data, .data, .data, .sentinel, .sentinel], laidTests := true, laidLooks := .later }
def SegmentDetectsUptoCardSaid : Prop := Claim7.holds Tryz.pinned (.plain (OpenSpec.upto segmentDetectsSpec)) segmentDetectsUptoCard

/-- THE SECOND FORM's CARD OF 'manifoldlaw45.SegmentFiles'. -/
def segmentFilesUptoCard : Claim7 := { stood := { row := segmentFilesUptoRow, standIns := [], harness := (true, "315fb01e6af0265552ce05a12dcc78f1d30f5b7e0d8b0a73699349de45baed2e"), looks := true }, kinds := [], alts := [], laidByText := true, laidKinds := [.data, .data, .data, .sentinel, .sentinel], laidTests := true, laidLooks := .later }
def SegmentFilesUptoCardSaid : Prop := Claim7.holds Tryz.pinned (.plain (OpenSpec.upto segmentFilesSpec)) segmentFilesUptoCard

/-- THE SECOND FORM's CARD OF 'manifoldlaw45.SegmentDamages'. -/
def segmentDamagesUptoCard : Claim7 := { stood := { row := segmentDamagesUptoRow, standIns := [], harness := (true, "315fb01e6af0265552ce05a12dcc78f1d30f5b7e0d8b0a73699349de45baed2e"), looks := true }, kinds := [], alts := [], laidByText := true, laidKinds := [.data, .data, .data, .sentinel, .sentinel], laidTests := true, laidLooks := .later }
def SegmentDamagesUptoCardSaid : Prop := Claim7.holds Tryz.pinned (.plain (OpenSpec.upto segmentDamagesSpec)) segmentDamagesUptoCard

/-- THE SECOND FORM's CARD OF 'manifoldlaw45.SegmentLogs'. -/
def segmentLogsUptoCard : Claim7 := { stood := { row := segmentLogsUptoRow, standIns := [], harness := (true, "315fb01e6af0265552ce05a12dcc78f1d30f5b7e0d8b0a73699349de45baed2e"), looks := true }, kinds := [], alts := [], laidByText := true, laidKinds := [.data, .data, .data, .sentinel, .sentinel], laidTests := true, laidLooks := .later }
def SegmentLogsUptoCardSaid : Prop := Claim7.holds Tryz.pinned (.plain (OpenSpec.upto segmentLogsSpec)) segmentLogsUptoCard

/-- THE SECOND FORM's CARD OF 'manifoldlaw45.SegmentApart'. -/
def segmentApartUptoCard : Claim7 := { stood := { row := segmentApartUptoRow, standIns := [], harness := (true, "315fb01e6af0265552ce05a12dcc78f1d30f5b7e0d8b0a73699349de45baed2e"), looks := true }, kinds := [], alts := [], laidByText := true, laidKinds := [.data, .data, .data, .sentinel, .sentinel], laidTests := true, laidLooks := .later }
def SegmentApartUptoCardSaid : Prop := Claim7.holds Tryz.pinned (.plain (OpenSpec.upto segmentApartSpec)) segmentApartUptoCard

/-- THE SECOND FORM's CARD OF 'manifoldlaw45.SegmentErrors'. -/
def segmentErrorsUptoCard : Claim7 := { stood := { row := segmentErrorsUptoRow, standIns := [], harness := (true, "315fb01e6af0265552ce05a12dcc78f1d30f5b7e0d8b0a73699349de45baed2e"), looks := true }, kinds := [], alts := [], laidByText := true, laidKinds := [.data, .data, .data, .sentinel, .sentinel], laidTests := true, laidLooks := .later }
def SegmentErrorsUptoCardSaid : Prop := Claim7.holds Tryz.pinned (.plain (OpenSpec.upto segmentErrorsSpec)) segmentErrorsUptoCard

/-- THE SECOND FORM's CARD OF 'manifoldlaw45.SegmentRecovers'. -/
def segmentRecoversUptoCard : Claim7 := { stood := { row := segmentRecoversUptoRow, standIns := [], harness := (true, "315fb01e6af0265552ce05a12dcc78f1d30f5b7e0d8b0a73699349de45baed2e"), looks := true }, kinds := [], alts := [], laidByText := true, laidKinds := [.data, .data, .data, .sentinel, .sentinel], laidTests := true, laidLooks := .later }
def SegmentRecoversUptoCardSaid : Prop := Claim7.holds Tryz.pinned (.plain (OpenSpec.upto segmentRecoversSpec)) segmentRecoversUptoCard
end Rows
end Go.Proofs.YtbafnlccpbonmaaGreatDoor
