/-
  DERIVED. GIVEN WITH THE SEED: THE CARDS: each row of YtenjpnhccnmnpaaDoorRows.lean that lists a variable, with what it lists TIED to the program's text (the seventh form; the later family's looks); each row that meets fmt, with fmt's text TOLD by the authors' own Lean function (tested against real Go, not proved from fmt's source: count such statements apart). THE CARD IS WHAT COUNTS. Prove the row's statement (the work); the ties are given (YtenjpnhccnmnpaaDoorTie.lean); close each card by the builder's one call (the guide's Derived/Test/ToyasCard.lean, 'card_holds'). Laid BY PROGRAM, IN A SANDBOX (cutbox-door.mjs). By AI agents, Wed Nov 11 2026. No macro, syntax, notation, axiom, sorry.
-/
import Derived.Test.YtenjpnhccnmnpaaDoorRows
import GoSem.ClaimSeven
namespace Go.Proofs.YtenjpnhccnmnpaaDoor
namespace Rows

/-- THE TIED CARD OF 'baileelaw06.StripeSystematic'. -/
def stripeSystematicCard : Claim7 := { stood := { row := stripeSystematicRow, standIns := [], harness := (true, "007f8ca0298edb5d5f74a8cbd4ac77ace2245fb41791dbe3867df3d709c04b92"), looks := true }, kinds := [], alts := [], laidByText := true, laidKinds := [.sentinel], laidTests := true, laidLooks := .later }
def StripeSystematicCardSaid : Prop := Claim7.holds Tryd.pinned (.plain (OpenSpec.ofChange stripeSystematicSpec)) stripeSystematicCard

/-- THE TIED CARD OF 'baileelaw06.StripeBlocks'. -/
def stripeBlocksCard : Claim7 := { stood := { row := stripeBlocksRow, standIns := [], harness := (true, "007f8ca0298edb5d5f74a8cbd4ac77ace2245fb41791dbe3867df3d709c04b92"), looks := true }, kinds := [], alts := [], laidByText := true, laidKinds := [.sentinel, .sentinel, .sentinel, .sentinel, .sentinel, .sentinel, .sentinel, .sentinel, .sentinel, .sentinel, .sentinel, .sentinel, .sentinel, .sentinel, .sentinel, .sentinel, .sentinel, .sentinel, .sentinel, .sentinel], laidTests := true, laidLooks := .later }
def StripeBlocksCardSaid : Prop := Claim7.holds Tryd.pinned (.plain (OpenSpec.ofChange stripeBlocksSpec)) stripeBlocksCard

/-- THE SECOND FORM's CARD OF 'baileelaw06.StripeSystematic'. -/
def stripeSystematicUptoCard : Claim7 := { stood := { row := stripeSystematicUptoRow, standIns := [], harness := (true, "007f8ca0298edb5d5f74a8cbd4ac77ace2245fb41791dbe3867df3d709c04b92"), looks := true }, kinds := [], alts := [], laidByText := true, laidKinds := [.sentinel], laidTests := true, laidLooks := .later }
def StripeSystematicUptoCardSaid : Prop := Claim7.holds Tryd.pinned (.plain (OpenSpec.upto stripeSystematicSpec)) stripeSystematicUptoCard

/-- THE SECOND FORM's CARD OF 'baileelaw06.StripeBlocks'. -/
def stripeBlocksUptoCard : Claim7 := { stood := { row := stripeBlocksUptoRow, standIns := [], harness := (true, "007f8ca0298edb5d5f74a8cbd4ac77ace2245fb41791dbe3867df3d709c04b92"), looks := true }, kinds := [], alts := [], laidByText := true, laidKinds := [.sentinel, .sentinel, .sentinel, .sentinel, .sentinel, .sentinel, .sentinel, .sentinel, .sentinel, .sentinel, .sentinel, .sentinel, .sentinel, .sentinel, .sentinel, .sentinel, .sentinel, .sentinel, .sentinel, .sentinel], laidTests := true, laidLooks := .later }
def StripeBlocksUptoCardSaid : Prop := Claim7.holds Tryd.pinned (.plain (OpenSpec.upto stripeBlocksSpec)) stripeBlocksUptoCard
end Rows
end Go.Proofs.YtenjpnhccnmnpaaDoor
