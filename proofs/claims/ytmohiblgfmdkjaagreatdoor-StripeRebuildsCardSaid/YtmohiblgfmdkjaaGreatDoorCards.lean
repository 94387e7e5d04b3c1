/-
  DERIVED. GIVEN WITH THE SEED: THE CARDS: each row of YtmohiblgfmdkjaaGreatDoorRows.lean that lists a variable, with what it lists TIED to the program's text (the seventh form; the later family's looks); each row that meets fmt, with fmt's text TOLD by the authors' own Lean function (tested against real Go, not proved from fmt's source: count such statements apart). THE CARD IS WHAT COUNTS. Prove the row's statement (the work); the ties are given (YtmohiblgfmdkjaaGreatDoorTie.lean); close each card by the builder's one call (the guide's Derived/Test/ToyasCard.lean, 'card_holds'). Laid BY PROGRAM, IN A SANDBOX (cutbox-door.mjs). By AI agents, Wed Nov 11 2026. No macro, syntax, notation, axiom, sorry.
-/
import Derived.Test.YtmohiblgfmdkjaaGreatDoorRows
import GoSem.ClaimSeven
namespace Go.Proofs.YtmohiblgfmdkjaaGreatDoor
namespace Rows

/-- THE TIED CARD OF 'baileelaw05.RepairFixes'. -/
def repairFixesCard : Claim7 := { stood := { row := repairFixesRow, standIns := [], harness := (true, "bad2bc0f1c6ee3aad54c619d2b8b21762a81a2629722903d8454665985f2246e"), looks := true }, kinds := [], alts := [], laidByText := true, laidKinds := [.sentinel, .sentinel, .sentinel, .sentinel, .sentinel, .sentinel, .sentinel, .sentinel, .sentinel, .sentinel, .sentinel, .sentinel, .sentinel, .sentinel, .sentinel, .sentinel, .sentinel, .sentinel, .sentinel, .sentinel], laidTests := true, laidLooks := .later }
def RepairFixesCardSaid : Prop := Claim7.holds Tryz.pinned (.plain (OpenSpec.ofChange repairFixesSpec)) repairFixesCard

/-- THE TIED CARD OF 'baileelaw06.StripeRebuilds'. -/
def stripeRebuildsCard : Claim7 := { stood := { row := stripeRebuildsRow, standIns := [], harness := (true, "bad2bc0f1c6ee3aad54c619d2b8b21762a81a2629722903d8454665985f2246e"), looks := true }, kinds := [], alts := [], laidByText := true, laidKinds := [.sentinel, .sentinel, .sentinel, .sentinel, .sentinel, .sentinel, .sentinel, .sentinel, .sentinel, .sentinel, .sentinel, .sentinel, .sentinel, .sentinel, .sentinel, .sentinel, .sentinel, .sentinel, .sentinel, .sentinel], laidTests := true, laidLooks := .later }
def StripeRebuildsCardSaid : Prop := Claim7.holds Tryz.pinned (.plain (OpenSpec.ofChange stripeRebuildsSpec)) stripeRebuildsCard

/-- THE SECOND FORM's CARD OF 'baileelaw05.RepairFixes'. -/
def repairFixesUptoCard : Claim7 := { stood := { row := repairFixesUptoRow, standIns := [], harness := (true, "bad2bc0f1c6ee3aad54c619d2b8b21762a81a2629722903d8454665985f2246e"), looks := true }, kinds := [], alts := [], laidByText := true, laidKinds := [.sentinel, .sentinel, .sentinel, .sentinel, .sentinel, .sentinel, .sentinel, .sentinel, .sentinel, .sentinel, .sentinel, .sentinel, .sentinel, .sentinel, .sentinel, .sentinel, .sentinel, .sentinel, .sentinel, .sentinel], laidTests := true, laidLooks := .later }
def RepairFixesUptoCardSaid : Prop := Claim7.holds Tryz.pinned (.plain (OpenSpec.upto repairFixesSpec)) repairFixesUptoCard

/-- THE SECOND FORM's CARD OF 'baileelaw06.StripeRebuilds'. -/
def stripeRebuildsUptoCard : Claim7 := { stood := { row := stripeRebuildsUptoRow, standIns := [], harness := (true, "bad2bc0f1c6ee3aad54c619d2b8b21762a81a2629722903d8454665985f2246e"), looks := true }, kinds := [], alts := [], laidByText := true, laidKinds := [.sentinel, .sentinel, .sentinel, .sentinel, .sentinel, .sentinel, .sentinel, .sentinel, .sentinel, .sentinel, .sentinel, .sentinel, .sentinel, .sentinel, .sentinel, .sentinel, .sentinel, .sentinel, .sentinel, .sentinel], laidTests := true, laidLooks := .later }
def StripeRebuildsUptoCardSaid : Prop := Claim7.holds Tryz.pinned (.plain (OpenSpec.upto stripeRebuildsSpec)) stripeRebuildsUptoCard
end Rows
end Go.Proofs.YtmohiblgfmdkjaaGreatDoor
