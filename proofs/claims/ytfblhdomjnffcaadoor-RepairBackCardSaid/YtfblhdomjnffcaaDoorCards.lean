/-
  DERIVED. GIVEN WITH THE SEED: THE CARDS: each row of YtfblhdomjnffcaaDoorRows.lean that lists a variable, with what it lists TIED to the program's text (the seventh form; the later family's looks); each row that meets fmt, with fmt's text TOLD by the authors' own Lean function (tested against real Go, not proved from fmt's source: count such statements apart). THE CARD IS WHAT COUNTS. Prove the row's statement (the work); the ties are given (YtfblhdomjnffcaaDoorTie.lean); close each card by the builder's one call (the guide's Derived/Test/ToyasCard.lean, 'card_holds'). Laid BY PROGRAM, IN A SANDBOX (cutbox-door.mjs). By AI agents, Wed Nov 11 2026. No macro, syntax, notation, axiom, sorry.
-/
import Derived.Test.YtfblhdomjnffcaaDoorRows
import GoSem.ClaimSeven
namespace Go.Proofs.YtfblhdomjnffcaaDoor
namespace Rows

/-- THE TIED CARD OF 'baileelaw04.LocateRegisters'. -/
def locateRegistersCard : Claim7 := { stood := { row := locateRegistersRow, standIns := [], harness := (true, "808c8ed61474309a1a5a39fda4ee88a33ec3c01a367a8c9621762e07be56d577"), looks := true }, kinds := [], alts := [], laidByText := true, laidKinds := [.sentinel, .sentinel, .sentinel, .sentinel, .sentinel], laidTests := true, laidLooks := .later }
def LocateRegistersCardSaid : Prop := Claim7.holds Tryd.pinned (.plain (OpenSpec.ofChange locateRegistersSpec)) locateRegistersCard

/-- THE TIED CARD OF 'baileelaw04.LocateErasures'. -/
def locateErasuresCard : Claim7 := { stood := { row := locateErasuresRow, standIns := [], harness := (true, "808c8ed61474309a1a5a39fda4ee88a33ec3c01a367a8c9621762e07be56d577"), looks := true }, kinds := [], alts := [], laidByText := true, laidKinds := [.sentinel, .sentinel, .sentinel, .sentinel, .sentinel, .sentinel, .sentinel, .sentinel, .sentinel, .sentinel, .sentinel, .sentinel, .sentinel, .sentinel, .sentinel, .sentinel, .sentinel, .sentinel, .sentinel, .sentinel], laidTests := true, laidLooks := .later }
def LocateErasuresCardSaid : Prop := Claim7.holds Tryd.pinned (.plain (OpenSpec.ofChange locateErasuresSpec)) locateErasuresCard

/-- THE TIED CARD OF 'baileelaw04.LocateFinds'. -/
def locateFindsCard : Claim7 := { stood := { row := locateFindsRow, standIns := [], harness := (true, "808c8ed61474309a1a5a39fda4ee88a33ec3c01a367a8c9621762e07be56d577"), looks := true }, kinds := [], alts := [], laidByText := true, laidKinds := [.sentinel, .sentinel, .sentinel, .sentinel, .sentinel, .sentinel, .sentinel, .sentinel, .sentinel, .sentinel, .sentinel, .sentinel, .sentinel, .sentinel, .sentinel, .sentinel, .sentinel, .sentinel, .sentinel, .sentinel], laidTests := true, laidLooks := .later }
def LocateFindsCardSaid : Prop := Claim7.holds Tryd.pinned (.plain (OpenSpec.ofChange locateFindsSpec)) locateFindsCard

/-- THE TIED CARD OF 'baileelaw04.LocatePlaces'. -/
def locatePlacesCard : Claim7 := { stood := { row := locatePlacesRow, standIns := [], harness := (true, "808c8ed61474309a1a5a39fda4ee88a33ec3c01a367a8c9621762e07be56d577"), looks := true }, kinds := [], alts := [], laidByText := true, laidKinds := [.sentinel, .sentinel, .sentinel, .sentinel, .sentinel], laidTests := true, laidLooks := .later }
def LocatePlacesCardSaid : Prop := Claim7.holds Tryd.pinned (.plain (OpenSpec.ofChange locatePlacesSpec)) locatePlacesCard

/-- THE TIED CARD OF 'baileelaw04.LocateEquation'. -/
def locateEquationCard : Claim7 := { stood := { row := locateEquationRow, standIns := [], harness := (true, "808c8ed61474309a1a5a39fda4ee88a33ec3c01a367a8c9621762e07be56d577"), looks := true }, kinds := [], alts := [], laidByText := true, laidKinds := [.sentinel, .sentinel, .sentinel, .sentinel, .sentinel], laidTests := true, laidLooks := .later }
def LocateEquationCardSaid : Prop := Claim7.holds Tryd.pinned (.plain (OpenSpec.ofChange locateEquationSpec)) locateEquationCard

/-- THE TIED CARD OF 'baileelaw05.RepairRight'. -/
def repairRightCard : Claim7 := { stood := { row := repairRightRow, standIns := [], harness := (true, "808c8ed61474309a1a5a39fda4ee88a33ec3c01a367a8c9621762e07be56d577"), looks := true }, kinds := [], alts := [], laidByText := true, laidKinds := [.sentinel, .sentinel, .sentinel, .sentinel, .sentinel, .sentinel], laidTests := true, laidLooks := .later }
def RepairRightCardSaid : Prop := Claim7.holds Tryd.pinned (.plain (OpenSpec.ofChange repairRightSpec)) repairRightCard

/-- THE TIED CARD OF 'baileelaw05.RepairBack'. -/
def repairBackCard : Claim7 := { stood := { row := repairBackRow, standIns := [], harness := (true, "808c8ed61474309a1a5a39fda4ee88a33ec3c01a367a8c9621762e07be56d577"), looks := true }, kinds := [], alts := [], laidByText := true, laidKinds := [.sentinel, .sentinel, .sentinel, .sentinel, .sentinel, .sentinel], laidTests := true, laidLooks := .later }
def RepairBackCardSaid : Prop := Claim7.holds Tryd.pinned (.plain (OpenSpec.ofChange repairBackSpec)) repairBackCard

/-- THE TIED CARD OF 'baileelaw05.RepairErased'. -/
def repairErasedCard : Claim7 := { stood := { row := repairErasedRow, standIns := [], harness := (true, "808c8ed61474309a1a5a39fda4ee88a33ec3c01a367a8c9621762e07be56d577"), looks := true }, kinds := [], alts := [], laidByText := true, laidKinds := [.sentinel, .sentinel, .sentinel, .sentinel, .sentinel, .sentinel], laidTests := true, laidLooks := .later }
def RepairErasedCardSaid : Prop := Claim7.holds Tryd.pinned (.plain (OpenSpec.ofChange repairErasedSpec)) repairErasedCard

/-- THE TIED CARD OF 'baileelaw06.StripeBack'. -/
def stripeBackCard : Claim7 := { stood := { row := stripeBackRow, standIns := [], harness := (true, "808c8ed61474309a1a5a39fda4ee88a33ec3c01a367a8c9621762e07be56d577"), looks := true }, kinds := [], alts := [], laidByText := true, laidKinds := [.sentinel, .sentinel, .sentinel, .sentinel, .sentinel, .sentinel, .sentinel], laidTests := true, laidLooks := .later }
def StripeBackCardSaid : Prop := Claim7.holds Tryd.pinned (.plain (OpenSpec.ofChange stripeBackSpec)) stripeBackCard

/-- THE SECOND FORM's CARD OF 'baileelaw04.LocateRegisters'. -/
def locateRegistersUptoCard : Claim7 := { stood := { row := locateRegistersUptoRow, standIns := [], harness := (true, "808c8ed61474309a1a5a39fda4ee88a33ec3c01a367a8c9621762e07be56d577"), looks := true }, kinds := [], alts := [], laidByText := true, laidKinds := [.sentinel, .sentinel, .sentinel, .sentinel, .sentinel], laidTests := true, laidLooks := .later }
def LocateRegistersUptoCardSaid : Prop := Claim7.holds Tryd.pinned (.plain (OpenSpec.upto locateRegistersSpec)) locateRegistersUptoCard

/-- THE SECOND FORM's CARD OF 'baileelaw04.LocateErasures'. -/
def locateErasuresUptoCard : Claim7 := { stood := { row := locateErasuresUptoRow, standIns := [], harness := (true, "808c8ed61474309a1a5a39fda4ee88a33ec3c01a367a8c9621762e07be56d577"), looks := true }, kinds := [], alts := [], laidByText := true, laidKinds := [.sentinel, .sentinel, .sentinel, .sentinel, .sentinel, .sentinel, .sentinel, .sentinel, .sentinel, .sentinel, .sentinel, .sentinel, .sentinel, .sentinel, .sentinel, .sentinel, .sentinel, .sentinel, .sentinel, .sentinel], laidTests := true, laidLooks := .later }
def LocateErasuresUptoCardSaid : Prop := Claim7.holds Tryd.pinned (.plain (OpenSpec.upto locateErasuresSpec)) locateErasuresUptoCard

/-- THE SECOND FORM's CARD OF 'baileelaw04.LocateFinds'. -/
def locateFindsUptoCard : Claim7 := { stood := { row := locateFindsUptoRow, standIns := [], harness := (true, "808c8ed61474309a1a5a39fda4ee88a33ec3c01a367a8c9621762e07be56d577"), looks := true }, kinds := [], alts := [], laidByText := true, laidKinds := [.sentinel, .sentinel, .sentinel, .sentinel, .sentinel, .sentinel, .sentinel, .sentinel, .sentinel, .sentinel, .sentinel, .sentinel, .sentinel, .sentinel, .sentinel, .sentinel, .sentinel, .sentinel, .sentinel, .sentinel], laidTests := true, laidLooks := .later }
def LocateFindsUptoCardSaid : Prop := Claim7.holds Tryd.pinned (.plain (OpenSpec.upto locateFindsSpec)) locateFindsUptoCard

/-- THE SECOND FORM's CARD OF 'baileelaw04.LocatePlaces'. -/
def locatePlacesUptoCard : Claim7 := { stood := { row := locatePlacesUptoRow, standIns := [], harness := (true, "808c8ed61474309a1a5a39fda4ee88a33ec3c01a367a8c9621762e07be56d577"), looks := true }, kinds := [], alts := [], laidByText := true, laidKinds := [.sentinel, .sentinel, .sentinel, .sentinel, .sentinel], laidTests := true, laidLooks := .later }
def LocatePlacesUptoCardSaid : Prop := Claim7.holds Tryd.pinned (.plain (OpenSpec.upto locatePlacesSpec)) locatePlacesUptoCard

/-- THE SECOND FORM's CARD OF 'baileelaw04.LocateEquation'. -/
def locateEquationUptoCard : Claim7 := { stood := { row := locateEquationUptoRow, standIns := [], harness := (true, "808c8ed61474309a1a5a39fda4ee88a33ec3c01a367a8c9621762e07be56d577"), looks := true }, kinds := [], alts := [], laidByText := true, laidKinds := [.sentinel, .sentinel, .sentinel, .sentinel, .sentinel], laidTests := true, laidLooks := .later }
def LocateEquationUptoCardSaid : Prop := Claim7.holds Tryd.pinned (.plain (OpenSpec.upto locateEquationSpec)) locateEquationUptoCard

/-- THE SECOND FORM's CARD OF 'baileelaw05.RepairRight'. -/
def repairRightUptoCard : Claim7 := { stood := { row := repairRightUptoRow, standIns := [], harness := (true, "808c8ed61474309a1a5a39fda4ee88a33ec3c01a367a8c9621762e07be56d577"), looks := true }, kinds := [], alts := [], laidByText := true, laidKinds := [.sentinel, .sentinel, .sentinel, .sentinel, .sentinel, .sentinel], laidTests := true, laidLooks := .later }
def RepairRightUptoCardSaid : Prop := Claim7.holds Tryd.pinned (.plain (OpenSpec.upto repairRightSpec)) repairRightUptoCard

/-- THE SECOND FORM's CARD OF 'baileelaw05.RepairBack'. -/
def repairBackUptoCard : Claim7 := { stood := { row := repairBackUptoRow, standIns := [], harness := (true, "808c8ed61474309a1a5a39fda4ee88a33ec3c01a367a8c9621762e07be56d577"), looks := true }, kinds := [], alts := [], laidByText := true, laidKinds := [.sentinel, .sentinel, .sentinel, .sentinel, .sentinel, .sentinel], laidTests := true, laidLooks := .later }
def RepairBackUptoCardSaid : Prop := Claim7.holds Tryd.pinned (.plain (OpenSpec.upto repairBackSpec)) repairBackUptoCard

/-- THE SECOND FORM's CARD OF 'baileelaw05.RepairErased'. -/
def repairErasedUptoCard : Claim7 := { stood := { row := repairErasedUptoRow, standIns := [], harness := (true, "808c8ed61474309a1a5a39fda4ee88a33ec3c01a367a8c9621762e07be56d577"), looks := true }, kinds := [], alts := [], laidByText := true, laidKinds := [.sentinel, .sentinel, .sentinel, .sentinel, .sentinel, .sentinel], laidTests := true, laidLooks := .later }
def RepairErasedUptoCardSaid : Prop := Claim7.holds Tryd.pinned (.plain (OpenSpec.upto repairErasedSpec)) repairErasedUptoCard

/-- THE SECOND FORM's CARD OF 'baileelaw06.StripeBack'. -/
def stripeBackUptoCard : Claim7 := { stood := { row := stripeBackUptoRow, standIns := [], harness := (true, "808c8ed61474309a1a5a39fda4ee88a33ec3c01a367a8c9621762e07be56d577"), looks := true }, kinds := [], alts := [], laidByText := true, laidKinds := [.sentinel, .sentinel, .sentinel, .sentinel, .sentinel, .sentinel, .sentinel], laidTests := true, laidLooks := .later }
def StripeBackUptoCardSaid : Prop := Claim7.holds Tryd.pinned (.plain (OpenSpec.upto stripeBackSpec)) stripeBackUptoCard
end Rows
end Go.Proofs.YtfblhdomjnffcaaDoor
