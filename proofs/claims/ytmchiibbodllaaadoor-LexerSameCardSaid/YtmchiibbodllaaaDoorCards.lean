/-
  DERIVED. GIVEN WITH THE SEED: THE CARDS: each row of YtmchiibbodllaaaDoorRows.lean that lists a variable, with what it lists TIED to the program's text (the seventh form; the later family's looks); each row that meets fmt, with fmt's text TOLD by the authors' own Lean function (tested against real Go, not proved from fmt's source: count such statements apart). THE CARD IS WHAT COUNTS. Prove the row's statement (the work); the ties are given (YtmchiibbodllaaaDoorTie.lean); close each card by the builder's one call (the guide's Derived/Test/ToyasCard.lean, 'card_holds'). Laid BY PROGRAM, IN A SANDBOX (cutbox-door.mjs). By AI agents, Wed Nov 11 2026. No macro, syntax, notation, axiom, sorry.
-/
import Derived.Test.YtmchiibbodllaaaDoorRows
import GoSem.ClaimSeven
namespace Go.Proofs.YtmchiibbodllaaaDoor
namespace Rows

/-- THE TIED CARD OF 'manifoldlaw15.LexerLimits'. -/
def lexerLimitsCard : Claim7 := { stood := { row := lexerLimitsRow, standIns := [], harness := (true, "f263df674136c2fe0cda111832462b820aee53cf4bc84fdc74a6c067c48e2e20"), looks := true }, kinds := [], alts := [], laidByText := true, laidKinds := [.data, .data, .data, .data, .sentinel, .sentinel, .widerDeep, .pinned], laidTests := true, laidLooks := .later }
def LexerLimitsCardSaid : Prop := Claim7.holds Tryd.pinned (.plain (OpenSpec.ofChange lexerLimitsSpec)) lexerLimitsCard

/-- THE TIED CARD OF 'manifoldlaw15.LexerSame'. -/
def lexerSameCard : Claim7 := { stood := { row := lexerSameRow, standIns := [], harness := (true, "f263df674136c2fe0cda111832462b820aee53cf4bc84fdc74a6c067c48e2e20"), looks := true }, kinds := [], alts := [], laidByText := true, laidKinds := [.data, .data, .data, .data, .sentinel, .sentinel, .widerDeep, .pinned], laidTests := true, laidLooks := .later }
def LexerSameCardSaid : Prop := Claim7.holds Tryd.pinned (.plain (OpenSpec.ofChange lexerSameSpec)) lexerSameCard

/-- THE SECOND FORM's CARD OF 'manifoldlaw15.LexerLimits'. -/
def lexerLimitsUptoCard : Claim7 := { stood := { row := lexerLimitsUptoRow, standIns := [], harness := (true, "f263df674136c2fe0cda111832462b820aee53cf4bc84fdc74a6c067c48e2e20"), looks := true }, kinds := [], alts := [], laidByText := true, laidKinds := [.data, .data, .data, .data, .sentinel, .sentinel, .widerDeep, .pinned], laidTests := true, laidLooks := .later }
def LexerLimitsUptoCardSaid : Prop := Claim7.holds Tryd.pinned (.plain (OpenSpec.upto lexerLimitsSpec)) lexerLimitsUptoCard

/-- THE SECOND FORM's CARD OF 'manifoldlaw15.LexerSame'. -/
def lexerSameUptoCard : Claim7 := { stood := { row := lexerSameUptoRow, standIns := [], harness := (true, "f263df674136c2fe0cda111832462b820aee53cf4bc84fdc74a6c067c48e2e20"), looks := true }, kinds := [], alts := [], laidByText := true, laidKinds := [.data, .data, .data, .data, .sentinel, .sentinel, .widerDeep, .pinned], laidTests := true, laidLooks := .later }
def LexerSameUptoCardSaid : Prop := Claim7.holds Tryd.pinned (.plain (OpenSpec.upto lexerSameSpec)) lexerSameUptoCard
end Rows
end Go.Proofs.YtmchiibbodllaaaDoor
