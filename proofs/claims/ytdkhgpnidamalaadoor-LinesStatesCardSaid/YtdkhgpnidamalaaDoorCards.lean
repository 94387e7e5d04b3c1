/-
  DERIVED. GIVEN WITH THE SEED: THE CARDS: each row of YtdkhgpnidamalaaDoorRows.lean that lists a variable, with what it lists TIED to the program's text (the seventh form; the later family's looks); each row that meets fmt, with fmt's text TOLD by the authors' own Lean function (tested against real Go, not proved from fmt's source: count such statements apart). THE CARD IS WHAT COUNTS. Prove the row's statement (the work); the ties are given (YtdkhgpnidamalaaDoorTie.lean); close each card by the builder's one call (the guide's Derived/Test/ToyasCard.lean, 'card_holds'). Laid BY PROGRAM, IN A SANDBOX (cutbox-door.mjs). By AI agents, Wed Nov 11 2026. No macro, syntax, notation, axiom, sorry.
-/
import Derived.Test.YtdkhgpnidamalaaDoorRows
import GoSem.ClaimSeven
namespace Go.Proofs.YtdkhgpnidamalaaDoor
namespace Rows

/-- THE TIED CARD OF 'baileelaw35.LinesStates'. -/
def linesStatesCard : Claim7 := { stood := { row := linesStatesRow, standIns := [], harness := (true, "72434524550afde0cbce724b53b10c69feb86a38fd44fc864b7ef1b3fab57a9c"), looks := true }, kinds := [], alts := [], laidByText := true, laidKinds := [.data, .data, .data, .data, .pinned, .pinned], laidTests := true, laidLooks := .later }
def LinesStatesCardSaid : Prop := Claim7.holds Tryd.pinned (.plain (OpenSpec.ofChange linesStatesSpec)) linesStatesCard

/-- THE SECOND FORM's CARD OF 'baileelaw35.LinesStates'. -/
def linesStatesUptoCard : Claim7 := { stood := { row := linesStatesUptoRow, standIns := [], harness := (true, "72434524550afde0cbce724b53b10c69feb86a38fd44fc864b7ef1b3fab57a9c"), looks := true }, kinds := [], alts := [], laidByText := true, laidKinds := [.data, .data, .data, .data, .pinned, .pinned], laidTests := true, laidLooks := .later }
def LinesStatesUptoCardSaid : Prop := Claim7.holds Tryd.pinned (.plain (OpenSpec.upto linesStatesSpec)) linesStatesUptoCard
end Rows
end Go.Proofs.YtdkhgpnidamalaaDoor
