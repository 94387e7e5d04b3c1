/-
  DERIVED. GIVEN WITH THE SEED: THE CARDS: each row of YtdloaifdpajcjaaGreatDoorRows.lean that lists a variable, with what it lists TIED to the program's text (the seventh form; the later family's looks); each row that meets fmt, with fmt's text TOLD by the authors' own Lean function (tested against real Go, not proved from fmt's source: count such statements apart). THE CARD IS WHAT COUNTS. Prove the row's statement (the work); the ties are given (YtdloaifdpajcjaaGreatDoorTie.lean); close each card by the builder's one call (the guide's Derived/Test/ToyasCard.lean, 'card_holds'). Laid BY PROGRAM, IN A SANDBOX (cutbox-door.mjs). By AI agents, Wed Nov 11 2026. No macro, syntax, notation, axiom, sorry.
-/
import Derived.Test.YtdloaifdpajcjaaGreatDoorRows
import GoSem.ClaimSeven
namespace Go.Proofs.YtdloaifdpajcjaaGreatDoor
namespace Rows

/-- THE TIED CARD OF 'baileelaw27.JudgeSound'. -/
def judgeSoundCard : Claim7 := { stood := { row := judgeSoundRow, standIns := [], harness := (true, "1bbead2e82edf9ca6a9be6af5a30560ee3c2165ba3e3fa5a36985258d4ba628a"), looks := true }, kinds := [], alts := [], laidByText := true, laidKinds := [.data, .sentinel, .sentinel, .sentinel, .sentinel, .sentinel, .sentinel, .sentinel, .sentinel, .data, .data, .pinned], laidTests := true, laidLooks := .later }
def JudgeSoundCardSaid : Prop := Claim7.holds Tryz.pinned (.plain (OpenSpec.ofChange judgeSoundSpec)) judgeSoundCard

/-- THE TIED CARD OF 'baileelaw27.JudgeHonest'. -/
def judgeHonestCard : Claim7 := { stood := { row := judgeHonestRow, standIns := [], harness := (true, "1bbead2e82edf9ca6a9be6af5a30560ee3c2165ba3e3fa5a36985258d4ba628a"), looks := true }, kinds := [], alts := [], laidByText := true, laidKinds := [.data, .sentinel, .sentinel, .sentinel, .sentinel, .sentinel, .sentinel, .sentinel, .sentinel, .sentinel, .data, .data, .pinned], laidTests := true, laidLooks := .later }
def JudgeHonestCardSaid : Prop := Claim7.holds Tryz.pinned (.plain (OpenSpec.ofChange judgeHonestSpec)) judgeHonestCard

/-- THE TIED CARD OF 'baileelaw40.AheadFits'. -/
def aheadFitsCard : Claim7 := { stood := { row := aheadFitsRow, standIns := [], harness := (true, "1bbead2e82edf9ca6a9be6af5a30560ee3c2165ba3e3fa5a36985258d4ba628a"), looks := true }, kinds := [], alts := [], laidByText := true, laidKinds := [.data, .sentinel, .sentinel, .sentinel, .sentinel, .sentinel, .sentinel, .sentinel, .sentinel, .sentinel, .sentinel, .sentinel, .sentinel, .sentinel, .sentinel, .sentinel, .sentinel, .sentinel, .sentinel, .sentinel, .sentinel, .data, .data, .pinned], laidTests := true, laidLooks := .later }
def AheadFitsCardSaid : Prop := Claim7.holds Tryz.pinned (.plain (OpenSpec.ofChange aheadFitsSpec)) aheadFitsCard

/-- THE SECOND FORM's CARD OF 'baileelaw27.JudgeSound'. -/
def judgeSoundUptoCard : Claim7 := { stood := { row := judgeSoundUptoRow, standIns := [], harness := (true, "1bbead2e82edf9ca6a9be6af5a30560ee3c2165ba3e3fa5a36985258d4ba628a"), looks := true }, kinds := [], alts := [], laidByText := true, laidKinds := [.data, .sentinel, .sentinel, .sentinel, .sentinel, .sentinel, .sentinel, .sentinel, .sentinel, .data, .data, .pinned], laidTests := true, laidLooks := .later }
def JudgeSoundUptoCardSaid : Prop := Claim7.holds Tryz.pinned (.plain (OpenSpec.upto judgeSoundSpec)) judgeSoundUptoCard

/-- THE SECOND FORM's CARD OF 'baileelaw27.JudgeHonest'. -/
def judgeHonestUptoCard : Claim7 := { stood := { row := judgeHonestUptoRow, standIns := [], harness := (true, "1bbead2e82edf9ca6a9be6af5a30560ee3c2165ba3e3fa5a36985258d4ba628a"), looks := true }, kinds := [], alts := [], laidByText := true, laidKinds := [.data, .sentinel, .sentinel, .sentinel, .sentinel, .sentinel, .sentinel, .sentinel, .sentinel, .sentinel, .data, .data, .pinned], laidTests := true, laidLooks := .later }
def JudgeHonestUptoCardSaid : Prop := Claim7.holds Tryz.pinned (.plain (OpenSpec.upto judgeHonestSpec)) judgeHonestUptoCard

/-- THE SECOND FORM's CARD OF 'baileelaw40.AheadFits'. -/
def aheadFitsUptoCard : Claim7 := { stood := { row := aheadFitsUptoRow, standIns := [], harness := (true, "1bbead2e82edf9ca6a9be6af5a30560ee3c2165ba3e3fa5a36985258d4ba628a"), looks := true }, kinds := [], alts := [], laidByText := true, laidKinds := [.data, .sentinel, .sentinel, .sentinel, .sentinel, .sentinel, .sentinel, .sentinel, .sentinel, .sentinel, .sentinel, .sentinel, .sentinel, .sentinel, .sentinel, .sentinel, .sentinel, .sentinel, .sentinel, .sentinel, .sentinel, .data, .data, .pinned], laidTests := true, laidLooks := .later }
def AheadFitsUptoCardSaid : Prop := Claim7.holds Tryz.pinned (.plain (OpenSpec.upto aheadFitsSpec)) aheadFitsUptoCard
end Rows
end Go.Proofs.YtdloaifdpajcjaaGreatDoor
