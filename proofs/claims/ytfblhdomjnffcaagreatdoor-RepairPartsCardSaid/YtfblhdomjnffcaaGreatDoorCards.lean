/-
  DERIVED. GIVEN WITH THE SEED: THE CARDS: each row of YtfblhdomjnffcaaGreatDoorRows.lean that lists a variable, with what it lists TIED to the program's text (the seventh form; the later family's looks); each row that meets fmt, with fmt's text TOLD by the authors' own Lean function (tested against real Go, not proved from fmt's source: count such statements apart). THE CARD IS WHAT COUNTS. Prove the row's statement (the work); the ties are given (YtfblhdomjnffcaaGreatDoorTie.lean); close each card by the builder's one call (the guide's Derived/Test/ToyasCard.lean, 'card_holds'). Laid BY PROGRAM, IN A SANDBOX (cutbox-door.mjs). By AI agents, Wed Nov 11 2026. No macro, syntax, notation, axiom, sorry.
-/
import Derived.Test.YtfblhdomjnffcaaGreatDoorRows
import GoSem.ClaimSeven
namespace Go.Proofs.YtfblhdomjnffcaaGreatDoor
namespace Rows

/-- THE TIED CARD OF 'baileelaw05.RepairParts'. -/
def repairPartsCard : Claim7 := { stood := { row := repairPartsRow, standIns := [], harness := (true, "ea71b4218e3196150115284b6d6f96bfbbdd31cefc73b29d7959e5552ee17368"), looks := true }, kinds := [], alts := [], laidByText := true, laidKinds := [.sentinel, .sentinel, .sentinel, .sentinel, .sentinel, .sentinel, .sentinel, .sentinel, .sentinel, .sentinel, .sentinel, .sentinel, .sentinel, .sentinel, .sentinel, .sentinel, .sentinel, .sentinel, .sentinel, .sentinel], laidTests := true, laidLooks := .later }
def RepairPartsCardSaid : Prop := Claim7.holds Tryz.pinned (.plain (OpenSpec.ofChange repairPartsSpec)) repairPartsCard

/-- THE TIED CARD OF 'baileelaw05.RepairFixes'. -/
def repairFixesCard : Claim7 := { stood := { row := repairFixesRow, standIns := [], harness := (true, "ea71b4218e3196150115284b6d6f96bfbbdd31cefc73b29d7959e5552ee17368"), looks := true }, kinds := [], alts := [], laidByText := true, laidKinds := [.sentinel, .sentinel, .sentinel, .sentinel, .sentinel, .sentinel, .sentinel, .sentinel, .sentinel, .sentinel, .sentinel, .sentinel, .sentinel, .sentinel, .sentinel, .sentinel, .sentinel, .sentinel, .sentinel, .sentinel], laidTests := true, laidLooks := .later }
def RepairFixesCardSaid : Prop := Claim7.holds Tryz.pinned (.plain (OpenSpec.ofChange repairFixesSpec)) repairFixesCard

/-- THE TIED CARD OF 'baileelaw06.StripeRebuilds'. -/
def stripeRebuildsCard : Claim7 := { stood := { row := stripeRebuildsRow, standIns := [], harness := (true, "ea71b4218e3196150115284b6d6f96bfbbdd31cefc73b29d7959e5552ee17368"), looks := true }, kinds := [], alts := [], laidByText := true, laidKinds := [.sentinel, .sentinel, .sentinel, .sentinel, .sentinel, .sentinel, .sentinel, .sentinel, .sentinel, .sentinel, .sentinel, .sentinel, .sentinel, .sentinel, .sentinel, .sentinel, .sentinel, .sentinel, .sentinel, .sentinel], laidTests := true, laidLooks := .later }
def StripeRebuildsCardSaid : Prop := Claim7.holds Tryz.pinned (.plain (OpenSpec.ofChange stripeRebuildsSpec)) stripeRebuildsCard

/-- THE SECOND FORM's CARD OF 'baileelaw05.RepairParts'. -/
def repairPartsUptoCard : Claim7 := { stood := { row := repairPartsUptoRow, standIns := [], harness := (true, "ea71b4218e3196150115284b6d6f96bfbbdd31cefc73b29d7959e5552ee17368"), looks := true }, kinds := [], alts := [], laidByText := true, laidKinds := [.sentinel, .sentinel, .sentinel, .sentinel, .sentinel, .sentinel, .sentinel, .sentinel, .sentinel, .sentinel, .sentinel, .sentinel, .sentinel, .sentinel, .sentinel, .sentinel, .sentinel, .sentinel, .sentinel, .sentinel], laidTests := true, laidLooks := .later }
def RepairPartsUptoCardSaid : Prop := Claim7.holds Tryz.pinned (.plain (OpenSpec.upto repairPartsSpec)) repairPartsUptoCard

/-- THE SECOND FORM's CARD OF 'baileelaw05.RepairFixes'. -/
def repairFixesUptoCard : Claim7 := { stood := { row := repairFixesUptoRow, standIns := [], harness := (true, "ea71b4218e3196150115284b6d6f96bfbbdd31cefc73b29d7959e5552ee17368"), looks := true }, kinds := [], alts := [], laidByText := true, laidKinds := [.sentinel, .sentinel, .sentinel, .sentinel, .sentinel, .sentinel, .sentinel, .sentinel, .sentinel, .sentinel, .sentinel, .sentinel, .sentinel, .sentinel, .sentinel, .sentinel, .sentinel, .sentinel, .sentinel, .sentinel], laidTests := true, laidLooks := .later }
def RepairFixesUptoCardSaid : Prop := Claim7.holds Tryz.pinned (.plain (OpenSpec.upto repairFixesSpec)) repairFixesUptoCard

/-- THE SECOND FORM's CARD OF 'baileelaw06.StripeRebuilds'. -/
def stripeRebuildsUptoCard : Claim7 := { stood := { row := stripeRebuildsUptoRow, standIns := [], harness := (true, "ea71b4218e3196150115284b6d6f96bfbbdd31cefc73b29d7959e5552ee17368"), looks := true }, kinds := [], alts := [], laidByText := true, laidKinds := [.sentinel, .sentinel, .sentinel, .sentinel, .sentinel, .sentinel, .sentinel, .sentinel, .sentinel, .sentinel, .sentinel, .sentinel, .sentinel, .sentinel, .sentinel, .sentinel, .sentinel, .sentinel, .sentinel, .sentinel], laidTests := true, laidLooks := .later }
def StripeRebuildsUptoCardSaid : Prop := Claim7.holds Tryz.pinned (.plain (OpenSpec.upto stripeRebuildsSpec)) stripeRebuildsUptoCard
end Rows
end Go.Proofs.YtfblhdomjnffcaaGreatDoor
