/-
  DERIVED. GIVEN WITH THE SEED: THE CARDS: each row of YtjldpodehffbnaaDoorRows.lean that lists a variable, with what it lists TIED to the program's text (the seventh form; the later family's looks); each row that meets fmt, with fmt's text TOLD by the authors' own Lean function (tested against real Go, not proved from fmt's source: count such statements apart). THE CARD IS WHAT COUNTS. Prove the row's statement (the work); the ties are given (YtjldpodehffbnaaDoorTie.lean); close each card by the builder's one call (the guide's Derived/Test/ToyasCard.lean, 'card_holds'). Laid BY PROGRAM, IN A SANDBOX (cutbox-door.mjs). By AI agents, Wed Nov 11 2026. No macro, syntax, notation, axiom, sorry.
-/
import Derived.Test.YtjldpodehffbnaaDoorRows
import GoSem.ClaimSeven
namespace Go.Proofs.YtjldpodehffbnaaDoor
namespace Rows

/-- THE TIED CARD OF 'manifoldlaw28.StampChecks'. -/
def stampChecksCard : Claim7 := { stood := { row := stampChecksRow, standIns := [], harness := (true, "b8bf1b898dca087132ab6456727b37740b84a83bdd2c94793a5552f2837f410a"), looks := true }, kinds := [], alts := [], laidByText := true, laidKinds := [.data, .data, .data], laidTests := true, laidLooks := .later }
def StampChecksCardSaid : Prop := Claim7.holds Tryd.pinned (.plain (OpenSpec.ofChange stampChecksSpec)) stampChecksCard

/-- THE TIED CARD OF 'manifoldlaw28.StampDescends'. -/
def stampDescendsCard : Claim7 := { stood := { row := stampDescendsRow, standIns := [], harness := (true, "b8bf1b898dca087132ab6456727b37740b84a83bdd2c94793a5552f2837f410a"), looks := true }, kinds := [], alts := [], laidByText := true, laidKinds := [.data, .data, .data], laidTests := true, laidLooks := .later }
def StampDescendsCardSaid : Prop := Claim7.holds Tryd.pinned (.plain (OpenSpec.ofChange stampDescendsSpec)) stampDescendsCard

/-- THE TIED CARD OF 'manifoldlaw28.StampMakes'. -/
def stampMakesCard : Claim7 := { stood := { row := stampMakesRow, standIns := [], harness := (true, "b8bf1b898dca087132ab6456727b37740b84a83bdd2c94793a5552f2837f410a"), looks := true }, kinds := [], alts := [], laidByText := true, laidKinds := [.data, .data, .data], laidTests := true, laidLooks := .later }
def StampMakesCardSaid : Prop := Claim7.holds Tryd.pinned (.plain (OpenSpec.ofChange stampMakesSpec)) stampMakesCard

/-- THE TIED CARD OF 'manifoldlaw28.StampOrders'. -/
def stampOrdersCard : Claim7 := { stood := { row := stampOrdersRow, standIns := [], harness := (true, "b8bf1b898dca087132ab6456727b37740b84a83bdd2c94793a5552f2837f410a"), looks := true }, kinds := [], alts := [], laidByText := true, laidKinds := [.data, .data, .data], laidTests := true, laidLooks := .later }
def StampOrdersCardSaid : Prop := Claim7.holds Tryd.pinned (.plain (OpenSpec.ofChange stampOrdersSpec)) stampOrdersCard

/-- THE TIED CARD OF 'manifoldlaw28.StampSeparates'. -/
def stampSeparatesCard : Claim7 := { stood := { row := stampSeparatesRow, standIns := [], harness := (true, "b8bf1b898dca087132ab6456727b37740b84a83bdd2c94793a5552f2837f410a"), looks := true }, kinds := [], alts := [], laidByText := true, laidKinds := [.data, .data, .data], laidTests := true, laidLooks := .later }
def StampSeparatesCardSaid : Prop := Claim7.holds Tryd.pinned (.plain (OpenSpec.ofChange stampSeparatesSpec)) stampSeparatesCard

/-- THE TIED CARD OF 'manifoldlaw28.StampChildren'. -/
def stampChildrenCard : Claim7 := { stood := { row := stampChildrenRow, standIns := [], harness := (true, "b8bf1b898dca087132ab6456727b37740b84a83bdd2c94793a5552f2837f410a"), looks := true }, kinds := [], alts := [], laidByText := true, laidKinds := [.data, .data, .data], laidTests := true, laidLooks := .later }
def StampChildrenCardSaid : Prop := Claim7.holds Tryd.pinned (.plain (OpenSpec.ofChange stampChildrenSpec)) stampChildrenCard

/-- THE TIED CARD OF 'manifoldlaw28.StampParents'. -/
def stampParentsCard : Claim7 := { stood := { row := stampParentsRow, standIns := [], harness := (true, "b8bf1b898dca087132ab6456727b37740b84a83bdd2c94793a5552f2837f410a"), looks := true }, kinds := [], alts := [], laidByText := true, laidKinds := [.data, .data, .data], laidTests := true, laidLooks := .later }
def StampParentsCardSaid : Prop := Claim7.holds Tryd.pinned (.plain (OpenSpec.ofChange stampParentsSpec)) stampParentsCard

/-- THE TIED CARD OF 'manifoldlaw28.StampSorts'. -/
def stampSortsCard : Claim7 := { stood := { row := stampSortsRow, standIns := [], harness := (true, "b8bf1b898dca087132ab6456727b37740b84a83bdd2c94793a5552f2837f410a"), looks := true }, kinds := [], alts := [], laidByText := true, laidKinds := [.data, .data, .data], laidTests := true, laidLooks := .later }
def StampSortsCardSaid : Prop := Claim7.holds Tryd.pinned (.plain (OpenSpec.ofChange stampSortsSpec)) stampSortsCard

/-- THE TIED CARD OF 'manifoldlaw28.StampAntichains'. -/
def stampAntichainsCard : Claim7 := { stood := { row := stampAntichainsRow, standIns := [], harness := (true, "b8bf1b898dca087132ab6456727b37740b84a83bdd2c94793a5552f2837f410a"), looks := true }, kinds := [], alts := [], laidByText := true, laidKinds := [.data, .data, .data], laidTests := true, laidLooks := .later }
def StampAntichainsCardSaid : Prop := Claim7.holds Tryd.pinned (.plain (OpenSpec.ofChange stampAntichainsSpec)) stampAntichainsCard

/-- THE TIED CARD OF 'manifoldlaw28.StampTexts'. -/
def stampTextsCard : Claim7 := { stood := { row := stampTextsRow, standIns := [], harness := (true, "b8bf1b898dca087132ab6456727b37740b84a83bdd2c94793a5552f2837f410a"), looks := true }, kinds := [], alts := [], laidByText := true, laidKinds := [.data, .data, .data, .data, .sentinel, .sentinel, .pinned], laidTests := true, laidLooks := .later }
def StampTextsCardSaid : Prop := Claim7.holds Tryd.pinned (.plain (OpenSpec.ofChange stampTextsSpec)) stampTextsCard

/-- THE TIED CARD OF 'manifoldlaw28.StampParses'. -/
def stampParsesCard : Claim7 := { stood := { row := stampParsesRow, standIns := [], harness := (true, "b8bf1b898dca087132ab6456727b37740b84a83bdd2c94793a5552f2837f410a"), looks := true }, kinds := [], alts := [], laidByText := true, laidKinds := [.data, .data, .data, .data, .sentinel, .sentinel, .pinned], laidTests := true, laidLooks := .later }
def StampParsesCardSaid : Prop := Claim7.holds Tryd.pinned (.plain (OpenSpec.ofChange stampParsesSpec)) stampParsesCard

/-- THE SECOND FORM's CARD OF 'manifoldlaw28.StampChecks'. -/
def stampChecksUptoCard : Claim7 := { stood := { row := stampChecksUptoRow, standIns := [], harness := (true, "b8bf1b898dca087132ab6456727b37740b84a83bdd2c94793a5552f2837f410a"), looks := true }, kinds := [], alts := [], laidByText := true, laidKinds := [.data, .data, .data], laidTests := true, laidLooks := .later }
def StampChecksUptoCardSaid : Prop := Claim7.holds Tryd.pinned (.plain (OpenSpec.upto stampChecksSpec)) stampChecksUptoCard

/-- THE SECOND FORM's CARD OF 'manifoldlaw28.StampDescends'. -/
def stampDescendsUptoCard : Claim7 := { stood := { row := stampDescendsUptoRow, standIns := [], harness := (true, "b8bf1b898dca087132ab6456727b37740b84a83bdd2c94793a5552f2837f410a"), looks := true }, kinds := [], alts := [], laidByText := true, laidKinds := [.data, .data, .data], laidTests := true, laidLooks := .later }
def StampDescendsUptoCardSaid : Prop := Claim7.holds Tryd.pinned (.plain (OpenSpec.upto stampDescendsSpec)) stampDescendsUptoCard

/-- THE SECOND FORM's CARD OF 'manifoldlaw28.StampMakes'. -/
def stampMakesUptoCard : Claim7 := { stood := { row := stampMakesUptoRow, standIns := [], harness := (true, "b8bf1b898dca087132ab6456727b37740b84a83bdd2c94793a5552f2837f410a"), looks := true }, kinds := [], alts := [], laidByText := true, laidKinds := [.data, .data, .data], laidTests := true, laidLooks := .later }
def StampMakesUptoCardSaid : Prop := Claim7.holds Tryd.pinned (.plain (OpenSpec.upto stampMakesSpec)) stampMakesUptoCard

/-- THE SECOND FORM's CARD OF 'manifoldlaw28.StampOrders'. -/
def stampOrdersUptoCard : Claim7 := { stood := { row := stampOrdersUptoRow, standIns := [], harness := (true, "b8bf1b898dca087132ab6456727b37740b84a83bdd2c94793a5552f2837f410a"), looks := true }, kinds := [], alts := [], laidByText := true, laidKinds := [.data, .data, .data], laidTests := true, laidLooks := .later }
def StampOrdersUptoCardSaid : Prop := Claim7.holds Tryd.pinned (.plain (OpenSpec.upto stampOrdersSpec)) stampOrdersUptoCard

/-- THE SECOND FORM's CARD OF 'manifoldlaw28.StampSeparates'. -/
def stampSeparatesUptoCard : Claim7 := { stood := { row := stampSeparatesUptoRow, standIns := [], harness := (true, "b8bf1b898dca087132ab6456727b37740b84a83bdd2c94793a5552f2837f410a"), looks := true }, kinds := [], alts := [], laidByText := true, laidKinds := [.data, .data, .data], laidTests := true, laidLooks := .later }
def StampSeparatesUptoCardSaid : Prop := Claim7.holds Tryd.pinned (.plain (OpenSpec.upto stampSeparatesSpec)) stampSeparatesUptoCard

/-- THE SECOND FORM's CARD OF 'manifoldlaw28.StampChildren'. -/
def stampChildrenUptoCard : Claim7 := { stood := { row := stampChildrenUptoRow, standIns := [], harness := (true, "b8bf1b898dca087132ab6456727b37740b84a83bdd2c94793a5552f2837f410a"), looks := true }, kinds := [], alts := [], laidByText := true, laidKinds := [.data, .data, .data], laidTests := true, laidLooks := .later }
def StampChildrenUptoCardSaid : Prop := Claim7.holds Tryd.pinned (.plain (OpenSpec.upto stampChildrenSpec)) stampChildrenUptoCard

/-- THE SECOND FORM's CARD OF 'manifoldlaw28.StampParents'. -/
def stampParentsUptoCard : Claim7 := { stood := { row := stampParentsUptoRow, standIns := [], harness := (true, "b8bf1b898dca087132ab6456727b37740b84a83bdd2c94793a5552f2837f410a"), looks := true }, kinds := [], alts := [], laidByText := true, laidKinds := [.data, .data, .data], laidTests := true, laidLooks := .later }
def StampParentsUptoCardSaid : Prop := Claim7.holds Tryd.pinned (.plain (OpenSpec.upto stampParentsSpec)) stampParentsUptoCard

/-- THE SECOND FORM's CARD OF 'manifoldlaw28.StampSorts'. -/
def stampSortsUptoCard : Claim7 := { stood := { row := stampSortsUptoRow, standIns := [], harness := (true, "b8bf1b898dca087132ab6456727b37740b84a83bdd2c94793a5552f2837f410a"), looks := true }, kinds := [], alts := [], laidByText := true, laidKinds := [.data, .data, .data], laidTests := true, laidLooks := .later }
def StampSortsUptoCardSaid : Prop := Claim7.holds Tryd.pinned (.plain (OpenSpec.upto stampSortsSpec)) stampSortsUptoCard

/-- THE SECOND FORM's CARD OF 'manifoldlaw28.StampAntichains'. -/
def stampAntichainsUptoCard : Claim7 := { stood := { row := stampAntichainsUptoRow, standIns := [], harness := (true, "b8bf1b898dca087132ab6456727b37740b84a83bdd2c94793a5552f2837f410a"), looks := true }, kinds := [], alts := [], laidByText := true, laidKinds := [.data, .data, .data], laidTests := true, laidLooks := .later }
def StampAntichainsUptoCardSaid : Prop := Claim7.holds Tryd.pinned (.plain (OpenSpec.upto stampAntichainsSpec)) stampAntichainsUptoCard

/-- THE SECOND FORM's CARD OF 'manifoldlaw28.StampTexts'. -/
def stampTextsUptoCard : Claim7 := { stood := { row := stampTextsUptoRow, standIns := [], harness := (true, "b8bf1b898dca087132ab6456727b37740b84a83bdd2c94793a5552f2837f410a"), looks := true }, kinds := [], alts := [], laidByText := true, laidKinds := [.data, .data, .data, .data, .sentinel, .sentinel, .pinned], laidTests := true, laidLooks := .later }
def StampTextsUptoCardSaid : Prop := Claim7.holds Tryd.pinned (.plain (OpenSpec.upto stampTextsSpec)) stampTextsUptoCard

/-- THE SECOND FORM's CARD OF 'manifoldlaw28.StampParses'. -/
def stampParsesUptoCard : Claim7 := { stood := { row := stampParsesUptoRow, standIns := [], harness := (true, "b8bf1b898dca087132ab6456727b37740b84a83bdd2c94793a5552f2837f410a"), looks := true }, kinds := [], alts := [], laidByText := true, laidKinds := [.data, .data, .data, .data, .sentinel, .sentinel, .pinned], laidTests := true, laidLooks := .later }
def StampParsesUptoCardSaid : Prop := Claim7.holds Tryd.pinned (.plain (OpenSpec.upto stampParsesSpec)) stampParsesUptoCard
end Rows
end Go.Proofs.YtjldpodehffbnaaDoor
