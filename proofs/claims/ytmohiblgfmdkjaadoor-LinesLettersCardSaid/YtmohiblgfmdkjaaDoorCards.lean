/-
  DERIVED. GIVEN WITH THE SEED: THE CARDS: each row of YtmohiblgfmdkjaaDoorRows.lean that lists a variable, with what it lists TIED to the program's text (the seventh form; the later family's looks); each row that meets fmt, with fmt's text TOLD by the authors' own Lean function (tested against real Go, not proved from fmt's source: count such statements apart). THE CARD IS WHAT COUNTS. Prove the row's statement (the work); the ties are given (YtmohiblgfmdkjaaDoorTie.lean); close each card by the builder's one call (the guide's Derived/Test/ToyasCard.lean, 'card_holds'). Laid BY PROGRAM, IN A SANDBOX (cutbox-door.mjs). By AI agents, Wed Nov 11 2026. No macro, syntax, notation, axiom, sorry.
-/
import Derived.Test.YtmohiblgfmdkjaaDoorRows
import GoSem.ClaimSeven
namespace Go.Proofs.YtmohiblgfmdkjaaDoor
namespace Rows

/-- THE TIED CARD OF 'baileelaw06.StripeBack'. -/
def stripeBackCard : Claim7 := { stood := { row := stripeBackRow, standIns := [], harness := (true, "b2952bb7aa67ef9433d5bbb2d12c014e855f5c7688378455b30232d5f3fce418"), looks := true }, kinds := [], alts := [], laidByText := true, laidKinds := [.sentinel, .sentinel, .sentinel, .sentinel, .sentinel, .sentinel, .sentinel], laidTests := true, laidLooks := .later }
def StripeBackCardSaid : Prop := Claim7.holds Tryd.pinned (.plain (OpenSpec.ofChange stripeBackSpec)) stripeBackCard

/-- THE TIED CARD OF 'baileelaw35.LinesLetters'. -/
def linesLettersCard : Claim7 := { stood := { row := linesLettersRow, standIns := [], harness := (true, "b2952bb7aa67ef9433d5bbb2d12c014e855f5c7688378455b30232d5f3fce418"), looks := true }, kinds := [], alts := [], laidByText := true, laidKinds := [.data, .data, .data, .data, .data], laidTests := true, laidLooks := .later }
def LinesLettersCardSaid : Prop := Claim7.holds Tryd.pinned (.plain (OpenSpec.ofChange linesLettersSpec)) linesLettersCard

/-- THE TIED CARD OF 'baileelaw35.LinesStates'. -/
def linesStatesCard : Claim7 := { stood := { row := linesStatesRow, standIns := [], harness := (true, "b2952bb7aa67ef9433d5bbb2d12c014e855f5c7688378455b30232d5f3fce418"), looks := true }, kinds := [], alts := [], laidByText := true, laidKinds := [.data, .data, .data, .data, .pinned, .pinned], laidTests := true, laidLooks := .later }
def LinesStatesCardSaid : Prop := Claim7.holds Tryd.pinned (.plain (OpenSpec.ofChange linesStatesSpec)) linesStatesCard

/-- THE SECOND FORM's CARD OF 'baileelaw06.StripeBack'. -/
def stripeBackUptoCard : Claim7 := { stood := { row := stripeBackUptoRow, standIns := [], harness := (true, "b2952bb7aa67ef9433d5bbb2d12c014e855f5c7688378455b30232d5f3fce418"), looks := true }, kinds := [], alts := [], laidByText := true, laidKinds := [.sentinel, .sentinel, .sentinel, .sentinel, .sentinel, .sentinel, .sentinel], laidTests := true, laidLooks := .later }
def StripeBackUptoCardSaid : Prop := Claim7.holds Tryd.pinned (.plain (OpenSpec.upto stripeBackSpec)) stripeBackUptoCard

/-- THE SECOND FORM's CARD OF 'baileelaw35.LinesLetters'. -/
def linesLettersUptoCard : Claim7 := { stood := { row := linesLettersUptoRow, standIns := [], harness := (true, "b2952bb7aa67ef9433d5bbb2d12c014e855f5c7688378455b30232d5f3fce418"), looks := true }, kinds := [], alts := [], laidByText := true, laidKinds := [.data, .data, .data, .data, .data], laidTests := true, laidLooks := .later }
def LinesLettersUptoCardSaid : Prop := Claim7.holds Tryd.pinned (.plain (OpenSpec.upto linesLettersSpec)) linesLettersUptoCard

/-- THE SECOND FORM's CARD OF 'baileelaw35.LinesStates'. -/
def linesStatesUptoCard : Claim7 := { stood := { row := linesStatesUptoRow, standIns := [], harness := (true, "b2952bb7aa67ef9433d5bbb2d12c014e855f5c7688378455b30232d5f3fce418"), looks := true }, kinds := [], alts := [], laidByText := true, laidKinds := [.data, .data, .data, .data, .pinned, .pinned], laidTests := true, laidLooks := .later }
def LinesStatesUptoCardSaid : Prop := Claim7.holds Tryd.pinned (.plain (OpenSpec.upto linesStatesSpec)) linesStatesUptoCard
end Rows
end Go.Proofs.YtmohiblgfmdkjaaDoor
