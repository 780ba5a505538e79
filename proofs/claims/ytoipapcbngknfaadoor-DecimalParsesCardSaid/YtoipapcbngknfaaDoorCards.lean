/-
  DERIVED. GIVEN WITH THE SEED: THE CARDS: each row of YtoipapcbngknfaaDoorRows.lean that lists a variable, with what it lists TIED to the program's text (the seventh form; the later family's looks); each row that meets fmt, with fmt's text TOLD by the authors' own Lean function (tested against real Go, not proved from fmt's source: count such statements apart). THE CARD IS WHAT COUNTS. Prove the row's statement (the work); the ties are given (YtoipapcbngknfaaDoorTie.lean); close each card by the builder's one call (the guide's Derived/Test/ToyasCard.lean, 'card_holds'). Laid BY PROGRAM, IN A SANDBOX (cutbox-door.mjs). By AI agents, Wed Nov 11 2026. No macro, syntax, notation, axiom, sorry.
-/
import Derived.Test.YtoipapcbngknfaaDoorRows
import GoSem.ClaimSeven
namespace Go.Proofs.YtoipapcbngknfaaDoor
namespace Rows

/-- THE TIED CARD OF 'manifoldlaw01.DecimalDivides'. -/
def decimalDividesCard : Claim7 := { stood := { row := decimalDividesRow, standIns := [], harness := (true, "35d907072411b0dad4567614266a54bb8facae6bb83b3480b01f6cfd8ad48957"), looks := true }, kinds := [], alts := [], laidByText := true, laidKinds := [.data, .data, .data], laidTests := true, laidLooks := .later }
def DecimalDividesCardSaid : Prop := Claim7.holds Tryd.pinned (.plain (OpenSpec.ofChange decimalDividesSpec)) decimalDividesCard

/-- THE TIED CARD OF 'manifoldlaw01.DecimalNearest'. -/
def decimalNearestCard : Claim7 := { stood := { row := decimalNearestRow, standIns := [], harness := (true, "35d907072411b0dad4567614266a54bb8facae6bb83b3480b01f6cfd8ad48957"), looks := true }, kinds := [], alts := [], laidByText := true, laidKinds := [.data, .data, .data], laidTests := true, laidLooks := .later }
def DecimalNearestCardSaid : Prop := Claim7.holds Tryd.pinned (.plain (OpenSpec.ofChange decimalNearestSpec)) decimalNearestCard

/-- THE TIED CARD OF 'manifoldlaw01.DecimalAdds'. -/
def decimalAddsCard : Claim7 := { stood := { row := decimalAddsRow, standIns := [], harness := (true, "35d907072411b0dad4567614266a54bb8facae6bb83b3480b01f6cfd8ad48957"), looks := true }, kinds := [], alts := [], laidByText := true, laidKinds := [.data, .data, .data], laidTests := true, laidLooks := .later }
def DecimalAddsCardSaid : Prop := Claim7.holds Tryd.pinned (.plain (OpenSpec.ofChange decimalAddsSpec)) decimalAddsCard

/-- THE TIED CARD OF 'manifoldlaw01.DecimalMultiplies'. -/
def decimalMultipliesCard : Claim7 := { stood := { row := decimalMultipliesRow, standIns := [], harness := (true, "35d907072411b0dad4567614266a54bb8facae6bb83b3480b01f6cfd8ad48957"), looks := true }, kinds := [], alts := [], laidByText := true, laidKinds := [.data, .data, .data], laidTests := true, laidLooks := .later }
def DecimalMultipliesCardSaid : Prop := Claim7.holds Tryd.pinned (.plain (OpenSpec.ofChange decimalMultipliesSpec)) decimalMultipliesCard

/-- THE TIED CARD OF 'manifoldlaw01.DecimalSums'. -/
def decimalSumsCard : Claim7 := { stood := { row := decimalSumsRow, standIns := [], harness := (true, "35d907072411b0dad4567614266a54bb8facae6bb83b3480b01f6cfd8ad48957"), looks := true }, kinds := [], alts := [], laidByText := true, laidKinds := [.data, .data, .data], laidTests := true, laidLooks := .later }
def DecimalSumsCardSaid : Prop := Claim7.holds Tryd.pinned (.plain (OpenSpec.ofChange decimalSumsSpec)) decimalSumsCard

/-- THE TIED CARD OF 'manifoldlaw01.DecimalChecks'. -/
def decimalChecksCard : Claim7 := { stood := { row := decimalChecksRow, standIns := [], harness := (true, "35d907072411b0dad4567614266a54bb8facae6bb83b3480b01f6cfd8ad48957"), looks := true }, kinds := [], alts := [], laidByText := true, laidKinds := [.data, .data, .data], laidTests := true, laidLooks := .later }
def DecimalChecksCardSaid : Prop := Claim7.holds Tryd.pinned (.plain (OpenSpec.ofChange decimalChecksSpec)) decimalChecksCard

/-- THE TIED CARD OF 'manifoldlaw01.DecimalOrders'. -/
def decimalOrdersCard : Claim7 := { stood := { row := decimalOrdersRow, standIns := [], harness := (true, "35d907072411b0dad4567614266a54bb8facae6bb83b3480b01f6cfd8ad48957"), looks := true }, kinds := [], alts := [], laidByText := true, laidKinds := [.data, .data, .data], laidTests := true, laidLooks := .later }
def DecimalOrdersCardSaid : Prop := Claim7.holds Tryd.pinned (.plain (OpenSpec.ofChange decimalOrdersSpec)) decimalOrdersCard

/-- THE TIED CARD OF 'manifoldlaw01.DecimalCompares'. -/
def decimalComparesCard : Claim7 := { stood := { row := decimalComparesRow, standIns := [], harness := (true, "35d907072411b0dad4567614266a54bb8facae6bb83b3480b01f6cfd8ad48957"), looks := true }, kinds := [], alts := [], laidByText := true, laidKinds := [.data, .data, .data], laidTests := true, laidLooks := .later }
def DecimalComparesCardSaid : Prop := Claim7.holds Tryd.pinned (.plain (OpenSpec.ofChange decimalComparesSpec)) decimalComparesCard

/-- THE TIED CARD OF 'manifoldlaw01.DecimalRing'. -/
def decimalRingCard : Claim7 := { stood := { row := decimalRingRow, standIns := [], harness := (true, "35d907072411b0dad4567614266a54bb8facae6bb83b3480b01f6cfd8ad48957"), looks := true }, kinds := [], alts := [], laidByText := true, laidKinds := [.data, .data, .data], laidTests := true, laidLooks := .later }
def DecimalRingCardSaid : Prop := Claim7.holds Tryd.pinned (.plain (OpenSpec.ofChange decimalRingSpec)) decimalRingCard

/-- THE TIED CARD OF 'manifoldlaw01.DecimalTexts'. -/
def decimalTextsCard : Claim7 := { stood := { row := decimalTextsRow, standIns := [], harness := (true, "35d907072411b0dad4567614266a54bb8facae6bb83b3480b01f6cfd8ad48957"), looks := true }, kinds := [], alts := [], laidByText := true, laidKinds := [.data, .data, .data, .sentinel, .sentinel], laidTests := true, laidLooks := .later }
def DecimalTextsCardSaid : Prop := Claim7.holds Tryd.pinned (.plain (OpenSpec.ofChange decimalTextsSpec)) decimalTextsCard

/-- THE TIED CARD OF 'manifoldlaw01.DecimalParses'. -/
def decimalParsesCard : Claim7 := { stood := { row := decimalParsesRow, standIns := [], harness := (true, "35d907072411b0dad4567614266a54bb8facae6bb83b3480b01f6cfd8ad48957"), looks := true }, kinds := [], alts := [], laidByText := true, laidKinds := [.data, .data, .data, .sentinel, .sentinel], laidTests := true, laidLooks := .later }
def DecimalParsesCardSaid : Prop := Claim7.holds Tryd.pinned (.plain (OpenSpec.ofChange decimalParsesSpec)) decimalParsesCard

/-- THE SECOND FORM's CARD OF 'manifoldlaw01.DecimalDivides'. -/
def decimalDividesUptoCard : Claim7 := { stood := { row := decimalDividesUptoRow, standIns := [], harness := (true, "35d907072411b0dad4567614266a54bb8facae6bb83b3480b01f6cfd8ad48957"), looks := true }, kinds := [], alts := [], laidByText := true, laidKinds := [.data, .data, .data], laidTests := true, laidLooks := .later }
def DecimalDividesUptoCardSaid : Prop := Claim7.holds Tryd.pinned (.plain (OpenSpec.upto decimalDividesSpec)) decimalDividesUptoCard

/-- THE SECOND FORM's CARD OF 'manifoldlaw01.DecimalNearest'. -/
def decimalNearestUptoCard : Claim7 := { stood := { row := decimalNearestUptoRow, standIns := [], harness := (true, "35d907072411b0dad4567614266a54bb8facae6bb83b3480b01f6cfd8ad48957"), looks := true }, kinds := [], alts := [], laidByText := true, laidKinds := [.data, .data, .data], laidTests := true, laidLooks := .later }
def DecimalNearestUptoCardSaid : Prop := Claim7.holds Tryd.pinned (.plain (OpenSpec.upto decimalNearestSpec)) decimalNearestUptoCard

/-- THE SECOND FORM's CARD OF 'manifoldlaw01.DecimalAdds'. -/
def decimalAddsUptoCard : Claim7 := { stood := { row := decimalAddsUptoRow, standIns := [], harness := (true, "35d907072411b0dad4567614266a54bb8facae6bb83b3480b01f6cfd8ad48957"), looks := true }, kinds := [], alts := [], laidByText := true, laidKinds := [.data, .data, .data], laidTests := true, laidLooks := .later }
def DecimalAddsUptoCardSaid : Prop := Claim7.holds Tryd.pinned (.plain (OpenSpec.upto decimalAddsSpec)) decimalAddsUptoCard

/-- THE SECOND FORM's CARD OF 'manifoldlaw01.DecimalMultiplies'. -/
def decimalMultipliesUptoCard : Claim7 := { stood := { row := decimalMultipliesUptoRow, standIns := [], harness := (true, "35d907072411b0dad4567614266a54bb8facae6bb83b3480b01f6cfd8ad48957"), looks := true }, kinds := [], alts := [], laidByText := true, laidKinds := [.data, .data, .data], laidTests := true, laidLooks := .later }
def DecimalMultipliesUptoCardSaid : Prop := Claim7.holds Tryd.pinned (.plain (OpenSpec.upto decimalMultipliesSpec)) decimalMultipliesUptoCard

/-- THE SECOND FORM's CARD OF 'manifoldlaw01.DecimalSums'. -/
def decimalSumsUptoCard : Claim7 := { stood := { row := decimalSumsUptoRow, standIns := [], harness := (true, "35d907072411b0dad4567614266a54bb8facae6bb83b3480b01f6cfd8ad48957"), looks := true }, kinds := [], alts := [], laidByText := true, laidKinds := [.data, .data, .data], laidTests := true, laidLooks := .later }
def DecimalSumsUptoCardSaid : Prop := Claim7.holds Tryd.pinned (.plain (OpenSpec.upto decimalSumsSpec)) decimalSumsUptoCard

/-- THE SECOND FORM's CARD OF 'manifoldlaw01.DecimalChecks'. -/
def decimalChecksUptoCard : Claim7 := { stood := { row := decimalChecksUptoRow, standIns := [], harness := (true, "35d907072411b0dad4567614266a54bb8facae6bb83b3480b01f6cfd8ad48957"), looks := true }, kinds := [], alts := [], laidByText := true, laidKinds := [.data, .data, .data], laidTests := true, laidLooks := .later }
def DecimalChecksUptoCardSaid : Prop := Claim7.holds Tryd.pinned (.plain (OpenSpec.upto decimalChecksSpec)) decimalChecksUptoCard

/-- THE SECOND FORM's CARD OF 'manifoldlaw01.DecimalOrders'. -/
def decimalOrdersUptoCard : Claim7 := { stood := { row := decimalOrdersUptoRow, standIns := [], harness := (true, "35d907072411b0dad4567614266a54bb8facae6bb83b3480b01f6cfd8ad48957"), looks := true }, kinds := [], alts := [], laidByText := true, laidKinds := [.data, .data, .data], laidTests := true, laidLooks := .later }
def DecimalOrdersUptoCardSaid : Prop := Claim7.holds Tryd.pinned (.plain (OpenSpec.upto decimalOrdersSpec)) decimalOrdersUptoCard

/-- THE SECOND FORM's CARD OF 'manifoldlaw01.DecimalCompares'. -/
def decimalComparesUptoCard : Claim7 := { stood := { row := decimalComparesUptoRow, standIns := [], harness := (true, "35d907072411b0dad4567614266a54bb8facae6bb83b3480b01f6cfd8ad48957"), looks := true }, kinds := [], alts := [], laidByText := true, laidKinds := [.data, .data, .data], laidTests := true, laidLooks := .later }
def DecimalComparesUptoCardSaid : Prop := Claim7.holds Tryd.pinned (.plain (OpenSpec.upto decimalComparesSpec)) decimalComparesUptoCard

/-- THE SECOND FORM's CARD OF 'manifoldlaw01.DecimalRing'. -/
def decimalRingUptoCard : Claim7 := { stood := { row := decimalRingUptoRow, standIns := [], harness := (true, "35d907072411b0dad4567614266a54bb8facae6bb83b3480b01f6cfd8ad48957"), looks := true }, kinds := [], alts := [], laidByText := true, laidKinds := [.data, .data, .data], laidTests := true, laidLooks := .later }
def DecimalRingUptoCardSaid : Prop := Claim7.holds Tryd.pinned (.plain (OpenSpec.upto decimalRingSpec)) decimalRingUptoCard

/-- THE SECOND FORM's CARD OF 'manifoldlaw01.DecimalTexts'. -/
def decimalTextsUptoCard : Claim7 := { stood := { row := decimalTextsUptoRow, standIns := [], harness := (true, "35d907072411b0dad4567614266a54bb8facae6bb83b3480b01f6cfd8ad48957"), looks := true }, kinds := [], alts := [], laidByText := true, laidKinds := [.data, .data, .data, .sentinel, .sentinel], laidTests := true, laidLooks := .later }
def DecimalTextsUptoCardSaid : Prop := Claim7.holds Tryd.pinned (.plain (OpenSpec.upto decimalTextsSpec)) decimalTextsUptoCard

/-- THE SECOND FORM's CARD OF 'manifoldlaw01.DecimalParses'. -/
def decimalParsesUptoCard : Claim7 := { stood := { row := decimalParsesUptoRow, standIns := [], harness := (true, "35d907072411b0dad4567614266a54bb8facae6bb83b3480b01f6cfd8ad48957"), looks := true }, kinds := [], alts := [], laidByText := true, laidKinds := [.data, .data, .data, .sentinel, .sentinel], laidTests := true, laidLooks := .later }
def DecimalParsesUptoCardSaid : Prop := Claim7.holds Tryd.pinned (.plain (OpenSpec.upto decimalParsesSpec)) decimalParsesUptoCard
end Rows
end Go.Proofs.YtoipapcbngknfaaDoor
