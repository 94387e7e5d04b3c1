/-
  DERIVED. GIVEN WITH THE SEED: THE CARDS: each row of YtbohmnblegljkaaDoorRows.lean that lists a variable, with what it lists TIED to the program's text (the seventh form; the later family's looks); each row that meets fmt, with fmt's text TOLD by the authors' own Lean function (tested against real Go, not proved from fmt's source: count such statements apart). THE CARD IS WHAT COUNTS. Prove the row's statement (the work); the ties are given (YtbohmnblegljkaaDoorTie.lean); close each card by the builder's one call (the guide's Derived/Test/ToyasCard.lean, 'card_holds'). Laid BY PROGRAM, IN A SANDBOX (cutbox-door.mjs). By AI agents, Wed Nov 11 2026. No macro, syntax, notation, axiom, sorry.
-/
import Derived.Test.YtbohmnblegljkaaDoorRows
import GoSem.ClaimSeven
namespace Go.Proofs.YtbohmnblegljkaaDoor
namespace Rows

/-- THE TIED CARD OF 'baileelaw06.StripeShapes'. -/
def stripeShapesCard : Claim7 := { stood := { row := stripeShapesRow, standIns := [], harness := (true, "06c4f9a953d2d70eaaf964b97d08dfcbc4c57c2e7272e1ca20d72e38a90653fe"), looks := true }, kinds := [], alts := [], laidByText := true, laidKinds := [.sentinel, .sentinel, .sentinel, .sentinel, .sentinel, .sentinel, .sentinel, .sentinel, .sentinel, .sentinel, .sentinel, .sentinel, .sentinel, .sentinel, .sentinel, .sentinel, .sentinel, .sentinel, .sentinel, .sentinel], laidTests := true, laidLooks := .later }
def StripeShapesCardSaid : Prop := Claim7.holds Tryd.pinned (.plain (OpenSpec.ofChange stripeShapesSpec)) stripeShapesCard

/-- THE TIED CARD OF 'baileelaw40.AheadTicks'. -/
def aheadTicksCard : Claim7 := { stood := { row := aheadTicksRow, standIns := [], harness := (true, "06c4f9a953d2d70eaaf964b97d08dfcbc4c57c2e7272e1ca20d72e38a90653fe"), looks := true }, kinds := [], alts := [], laidByText := true, laidKinds := [.sentinel, .sentinel, .sentinel, .sentinel, .sentinel, .sentinel, .sentinel, .sentinel, .sentinel, .sentinel, .sentinel, .sentinel, .sentinel, .sentinel, .sentinel, .sentinel, .sentinel, .sentinel, .sentinel, .sentinel], laidTests := true, laidLooks := .later }
def AheadTicksCardSaid : Prop := Claim7.holds Tryd.pinned (.plain (OpenSpec.ofChange aheadTicksSpec)) aheadTicksCard

/-- THE TIED CARD OF 'baileelaw40.AheadCycles'. -/
def aheadCyclesCard : Claim7 := { stood := { row := aheadCyclesRow, standIns := [], harness := (true, "06c4f9a953d2d70eaaf964b97d08dfcbc4c57c2e7272e1ca20d72e38a90653fe"), looks := true }, kinds := [], alts := [], laidByText := true, laidKinds := [.sentinel, .sentinel, .sentinel], laidTests := true, laidLooks := .later }
def AheadCyclesCardSaid : Prop := Claim7.holds Tryd.pinned (.plain (OpenSpec.ofChange aheadCyclesSpec)) aheadCyclesCard

/-- THE TIED CARD OF 'baileelaw40.AheadWays'. -/
def aheadWaysCard : Claim7 := { stood := { row := aheadWaysRow, standIns := [], harness := (true, "06c4f9a953d2d70eaaf964b97d08dfcbc4c57c2e7272e1ca20d72e38a90653fe"), looks := true }, kinds := [], alts := [], laidByText := true, laidKinds := [.sentinel, .sentinel, .sentinel, .sentinel, .sentinel, .sentinel, .sentinel, .sentinel, .sentinel, .sentinel, .sentinel, .sentinel, .sentinel, .sentinel, .sentinel, .sentinel, .sentinel, .sentinel, .sentinel, .sentinel], laidTests := true, laidLooks := .later }
def AheadWaysCardSaid : Prop := Claim7.holds Tryd.pinned (.plain (OpenSpec.ofChange aheadWaysSpec)) aheadWaysCard

/-- THE TIED CARD OF 'baileelaw31.ScriptEncodes'. -/
def scriptEncodesCard : Claim7 := { stood := { row := scriptEncodesRow, standIns := [], harness := (true, "06c4f9a953d2d70eaaf964b97d08dfcbc4c57c2e7272e1ca20d72e38a90653fe"), looks := true }, kinds := [], alts := [], laidByText := true, laidKinds := [.sentinel, .sentinel, .sentinel, .sentinel, .sentinel, .sentinel, .sentinel, .sentinel, .sentinel, .sentinel, .sentinel, .sentinel, .sentinel, .sentinel, .sentinel, .sentinel, .sentinel, .sentinel, .sentinel, .sentinel], laidTests := true, laidLooks := .later }
def ScriptEncodesCardSaid : Prop := Claim7.holds Tryd.pinned (.plain (OpenSpec.ofChange scriptEncodesSpec)) scriptEncodesCard

/-- THE TIED CARD OF 'baileelaw40.AheadSilent'. -/
def aheadSilentCard : Claim7 := { stood := { row := aheadSilentRow, standIns := [], harness := (true, "06c4f9a953d2d70eaaf964b97d08dfcbc4c57c2e7272e1ca20d72e38a90653fe"), looks := true }, kinds := [], alts := [], laidByText := true, laidKinds := [.sentinel, .sentinel, .sentinel, .sentinel, .sentinel, .sentinel, .sentinel, .sentinel, .sentinel, .sentinel, .sentinel, .sentinel, .sentinel, .sentinel, .sentinel, .sentinel, .sentinel, .sentinel, .sentinel, .sentinel], laidTests := true, laidLooks := .later }
def AheadSilentCardSaid : Prop := Claim7.holds Tryd.pinned (.plain (OpenSpec.ofChange aheadSilentSpec)) aheadSilentCard

/-- THE SECOND FORM's CARD OF 'baileelaw06.StripeShapes'. -/
def stripeShapesUptoCard : Claim7 := { stood := { row := stripeShapesUptoRow, standIns := [], harness := (true, "06c4f9a953d2d70eaaf964b97d08dfcbc4c57c2e7272e1ca20d72e38a90653fe"), looks := true }, kinds := [], alts := [], laidByText := true, laidKinds := [.sentinel, .sentinel, .sentinel, .sentinel, .sentinel, .sentinel, .sentinel, .sentinel, .sentinel, .sentinel, .sentinel, .sentinel, .sentinel, .sentinel, .sentinel, .sentinel, .sentinel, .sentinel, .sentinel, .sentinel], laidTests := true, laidLooks := .later }
def StripeShapesUptoCardSaid : Prop := Claim7.holds Tryd.pinned (.plain (OpenSpec.upto stripeShapesSpec)) stripeShapesUptoCard

/-- THE SECOND FORM's CARD OF 'baileelaw40.AheadTicks'. -/
def aheadTicksUptoCard : Claim7 := { stood := { row := aheadTicksUptoRow, standIns := [], harness := (true, "06c4f9a953d2d70eaaf964b97d08dfcbc4c57c2e7272e1ca20d72e38a90653fe"), looks := true }, kinds := [], alts := [], laidByText := true, laidKinds := [.sentinel, .sentinel, .sentinel, .sentinel, .sentinel, .sentinel, .sentinel, .sentinel, .sentinel, .sentinel, .sentinel, .sentinel, .sentinel, .sentinel, .sentinel, .sentinel, .sentinel, .sentinel, .sentinel, .sentinel], laidTests := true, laidLooks := .later }
def AheadTicksUptoCardSaid : Prop := Claim7.holds Tryd.pinned (.plain (OpenSpec.upto aheadTicksSpec)) aheadTicksUptoCard

/-- THE SECOND FORM's CARD OF 'baileelaw40.AheadCycles'. -/
def aheadCyclesUptoCard : Claim7 := { stood := { row := aheadCyclesUptoRow, standIns := [], harness := (true, "06c4f9a953d2d70eaaf964b97d08dfcbc4c57c2e7272e1ca20d72e38a90653fe"), looks := true }, kinds := [], alts := [], laidByText := true, laidKinds := [.sentinel, .sentinel, .sentinel], laidTests := true, laidLooks := .later }
def AheadCyclesUptoCardSaid : Prop := Claim7.holds Tryd.pinned (.plain (OpenSpec.upto aheadCyclesSpec)) aheadCyclesUptoCard

/-- THE SECOND FORM's CARD OF 'baileelaw40.AheadWays'. -/
def aheadWaysUptoCard : Claim7 := { stood := { row := aheadWaysUptoRow, standIns := [], harness := (true, "06c4f9a953d2d70eaaf964b97d08dfcbc4c57c2e7272e1ca20d72e38a90653fe"), looks := true }, kinds := [], alts := [], laidByText := true, laidKinds := [.sentinel, .sentinel, .sentinel, .sentinel, .sentinel, .sentinel, .sentinel, .sentinel, .sentinel, .sentinel, .sentinel, .sentinel, .sentinel, .sentinel, .sentinel, .sentinel, .sentinel, .sentinel, .sentinel, .sentinel], laidTests := true, laidLooks := .later }
def AheadWaysUptoCardSaid : Prop := Claim7.holds Tryd.pinned (.plain (OpenSpec.upto aheadWaysSpec)) aheadWaysUptoCard

/-- THE SECOND FORM's CARD OF 'baileelaw31.ScriptEncodes'. -/
def scriptEncodesUptoCard : Claim7 := { stood := { row := scriptEncodesUptoRow, standIns := [], harness := (true, "06c4f9a953d2d70eaaf964b97d08dfcbc4c57c2e7272e1ca20d72e38a90653fe"), looks := true }, kinds := [], alts := [], laidByText := true, laidKinds := [.sentinel, .sentinel, .sentinel, .sentinel, .sentinel, .sentinel, .sentinel, .sentinel, .sentinel, .sentinel, .sentinel, .sentinel, .sentinel, .sentinel, .sentinel, .sentinel, .sentinel, .sentinel, .sentinel, .sentinel], laidTests := true, laidLooks := .later }
def ScriptEncodesUptoCardSaid : Prop := Claim7.holds Tryd.pinned (.plain (OpenSpec.upto scriptEncodesSpec)) scriptEncodesUptoCard

/-- THE SECOND FORM's CARD OF 'baileelaw40.AheadSilent'. -/
def aheadSilentUptoCard : Claim7 := { stood := { row := aheadSilentUptoRow, standIns := [], harness := (true, "06c4f9a953d2d70eaaf964b97d08dfcbc4c57c2e7272e1ca20d72e38a90653fe"), looks := true }, kinds := [], alts := [], laidByText := true, laidKinds := [.sentinel, .sentinel, .sentinel, .sentinel, .sentinel, .sentinel, .sentinel, .sentinel, .sentinel, .sentinel, .sentinel, .sentinel, .sentinel, .sentinel, .sentinel, .sentinel, .sentinel, .sentinel, .sentinel, .sentinel], laidTests := true, laidLooks := .later }
def AheadSilentUptoCardSaid : Prop := Claim7.holds Tryd.pinned (.plain (OpenSpec.upto aheadSilentSpec)) aheadSilentUptoCard
end Rows
end Go.Proofs.YtbohmnblegljkaaDoor
