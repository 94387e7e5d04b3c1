/-
  DERIVED. GIVEN WITH THE SEED: THE CARDS: each row of YtnafknkchbfpaaaGreatDoorRows.lean that lists a variable, with what it lists TIED to the program's text (the seventh form; the later family's looks); each row that meets fmt, with fmt's text TOLD by the authors' own Lean function (tested against real Go, not proved from fmt's source: count such statements apart). THE CARD IS WHAT COUNTS. Prove the row's statement (the work); the ties are given (YtnafknkchbfpaaaGreatDoorTie.lean); close each card by the builder's one call (the guide's Derived/Test/ToyasCard.lean, 'card_holds'). Laid BY PROGRAM, IN A SANDBOX (cutbox-door.mjs). By AI agents, Wed Nov 11 2026. No macro, syntax, notation, axiom, sorry.
-/
import Derived.Test.YtnafknkchbfpaaaGreatDoorRows
import GoSem.ClaimSeven
namespace Go.Proofs.YtnafknkchbfpaaaGreatDoor
namespace Rows

/-- THE TIED CARD OF 'baileelaw16.SealedTags'. -/
def sealedTagsCard : Claim7 := { stood := { row := sealedTagsRow, standIns := [], harness := (true, "0d8f2031dbefcdf14db00a2af503dd6d290c87bcbaaa74613a40f459afb991da"), looks := true }, kinds := [], alts := [], laidByText := true, laidKinds := [.data, .data, .data, .sentinel, .sentinel, .sentinel, .sentinel, .sentinel, .sentinel, .sentinel, .sentinel, .sentinel, .sentinel, .sentinel, .sentinel, .sentinel, .sentinel, .sentinel, .sentinel, .sentinel, .sentinel, .sentinel, .sentinel, .data, .data, .pinned], laidTests := true, laidLooks := .later }
def SealedTagsCardSaid : Prop := Claim7.holds Tryz.pinned (.plain (OpenSpec.ofChange sealedTagsSpec)) sealedTagsCard

/-- THE TIED CARD OF 'baileelaw16.SealedPlaces'. -/
def sealedPlacesCard : Claim7 := { stood := { row := sealedPlacesRow, standIns := [], harness := (true, "0d8f2031dbefcdf14db00a2af503dd6d290c87bcbaaa74613a40f459afb991da"), looks := true }, kinds := [], alts := [], laidByText := true, laidKinds := [.data, .data, .data, .sentinel, .sentinel, .sentinel, .sentinel, .sentinel, .sentinel, .sentinel, .sentinel, .sentinel, .sentinel, .sentinel, .sentinel, .sentinel, .sentinel, .sentinel, .sentinel, .sentinel, .sentinel, .sentinel, .sentinel, .data, .data, .pinned], laidTests := true, laidLooks := .later }
def SealedPlacesCardSaid : Prop := Claim7.holds Tryz.pinned (.plain (OpenSpec.ofChange sealedPlacesSpec)) sealedPlacesCard

/-- THE TIED CARD OF 'baileelaw16.SealedSeals'. -/
def sealedSealsCard : Claim7 := { stood := { row := sealedSealsRow, standIns := [], harness := (true, "0d8f2031dbefcdf14db00a2af503dd6d290c87bcbaaa74613a40f459afb991da"), looks := true }, kinds := [], alts := [], laidByText := true, laidKinds := [.data, .data, .data, .sentinel, .sentinel, .sentinel, .sentinel, .sentinel, .sentinel, .sentinel, .sentinel, .sentinel, .sentinel, .sentinel, .sentinel, .sentinel, .sentinel, .sentinel, .sentinel, .sentinel, .sentinel, .sentinel, .sentinel, .data, .data, .pinned], laidTests := true, laidLooks := .later }
def SealedSealsCardSaid : Prop := Claim7.holds Tryz.pinned (.plain (OpenSpec.ofChange sealedSealsSpec)) sealedSealsCard

/-- THE TIED CARD OF 'baileelaw16.SealedHolds'. -/
def sealedHoldsCard : Claim7 := { stood := { row := sealedHoldsRow, standIns := [], harness := (true, "0d8f2031dbefcdf14db00a2af503dd6d290c87bcbaaa74613a40f459afb991da"), looks := true }, kinds := [], alts := [], laidByText := true, laidKinds := [.data, .sentinel, .sentinel, .sentinel, .sentinel, .sentinel, .sentinel, .data, .data, .pinned], laidTests := true, laidLooks := .later }
def SealedHoldsCardSaid : Prop := Claim7.holds Tryz.pinned (.plain (OpenSpec.ofChange sealedHoldsSpec)) sealedHoldsCard

/-- THE TIED CARD OF 'baileelaw27.JudgePlaces'. -/
def judgePlacesCard : Claim7 := { stood := { row := judgePlacesRow, standIns := [], harness := (true, "0d8f2031dbefcdf14db00a2af503dd6d290c87bcbaaa74613a40f459afb991da"), looks := true }, kinds := [], alts := [], laidByText := true, laidKinds := [.data, .data, .data, .sentinel, .sentinel, .sentinel, .sentinel, .sentinel, .sentinel, .sentinel, .sentinel, .sentinel, .sentinel, .sentinel, .sentinel, .sentinel, .sentinel, .sentinel, .sentinel, .sentinel, .sentinel, .sentinel, .sentinel, .data, .data, .pinned], laidTests := true, laidLooks := .later }
def JudgePlacesCardSaid : Prop := Claim7.holds Tryz.pinned (.plain (OpenSpec.ofChange judgePlacesSpec)) judgePlacesCard

/-- THE TIED CARD OF 'baileelaw27.JudgeWhy'. -/
def judgeWhyCard : Claim7 := { stood := { row := judgeWhyRow, standIns := [], harness := (true, "0d8f2031dbefcdf14db00a2af503dd6d290c87bcbaaa74613a40f459afb991da"), looks := true }, kinds := [], alts := [], laidByText := true, laidKinds := [.data, .data, .data, .sentinel, .sentinel, .sentinel, .sentinel, .sentinel, .sentinel, .sentinel, .sentinel, .sentinel, .sentinel, .sentinel, .sentinel, .sentinel, .sentinel, .sentinel, .sentinel, .sentinel, .sentinel, .sentinel, .sentinel, .data, .data, .pinned], laidTests := true, laidLooks := .later }
def JudgeWhyCardSaid : Prop := Claim7.holds Tryz.pinned (.plain (OpenSpec.ofChange judgeWhySpec)) judgeWhyCard

/-- THE SECOND FORM's CARD OF 'baileelaw16.SealedTags'. -/
def sealedTagsUptoCard : Claim7 := { stood := { row := sealedTagsUptoRow, standIns := [], harness := (true, "0d8f2031dbefcdf14db00a2af503dd6d290c87bcbaaa74613a40f459afb991da"), looks := true }, kinds := [], alts := [], laidByText := true, laidKinds := [.data, .data, .data, .sentinel, .sentinel, .sentinel, .sentinel, .sentinel, .sentinel, .sentinel, .sentinel, .sentinel, .sentinel, .sentinel, .sentinel, .sentinel, .sentinel, .sentinel, .sentinel, .sentinel, .sentinel, .sentinel, .sentinel, .data, .data, .pinned], laidTests := true, laidLooks := .later }
def SealedTagsUptoCardSaid : Prop := Claim7.holds Tryz.pinned (.plain (OpenSpec.upto sealedTagsSpec)) sealedTagsUptoCard

/-- THE SECOND FORM's CARD OF 'baileelaw16.SealedPlaces'. -/
def sealedPlacesUptoCard : Claim7 := { stood := { row := sealedPlacesUptoRow, standIns := [], harness := (true, "0d8f2031dbefcdf14db00a2af503dd6d290c87bcbaaa74613a40f459afb991da"), looks := true }, kinds := [], alts := [], laidByText := true, laidKinds := [.data, .data, .data, .sentinel, .sentinel, .sentinel, .sentinel, .sentinel, .sentinel, .sentinel, .sentinel, .sentinel, .sentinel, .sentinel, .sentinel, .sentinel, .sentinel, .sentinel, .sentinel, .sentinel, .sentinel, .sentinel, .sentinel, .data, .data, .pinned], laidTests := true, laidLooks := .later }
def SealedPlacesUptoCardSaid : Prop := Claim7.holds Tryz.pinned (.plain (OpenSpec.upto sealedPlacesSpec)) sealedPlacesUptoCard

/-- THE SECOND FORM's CARD OF 'baileelaw16.SealedSeals'. -/
def sealedSealsUptoCard : Claim7 := { stood := { row := sealedSealsUptoRow, standIns := [], harness := (true, "0d8f2031dbefcdf14db00a2af503dd6d290c87bcbaaa74613a40f459afb991da"), looks := true }, kinds := [], alts := [], laidByText := true, laidKinds := [.data, .data, .data, .sentinel, .sentinel, .sentinel, .sentinel, .sentinel, .sentinel, .sentinel, .sentinel, .sentinel, .sentinel, .sentinel, .sentinel, .sentinel, .sentinel, .sentinel, .sentinel, .sentinel, .sentinel, .sentinel, .sentinel, .data, .data, .pinned], laidTests := true, laidLooks := .later }
def SealedSealsUptoCardSaid : Prop := Claim7.holds Tryz.pinned (.plain (OpenSpec.upto sealedSealsSpec)) sealedSealsUptoCard

/-- THE SECOND FORM's CARD OF 'baileelaw16.SealedHolds'. -/
def sealedHoldsUptoCard : Claim7 := { stood := { row := sealedHoldsUptoRow, standIns := [], harness := (true, "0d8f2031dbefcdf14db00a2af503dd6d290c87bcbaaa74613a40f459afb991da"), looks := true }, kinds := [], alts := [], laidByText := true, laidKinds := [.data, .sentinel, .sentinel, .sentinel, .sentinel, .sentinel, .sentinel, .data, .data, .pinned], laidTests := true, laidLooks := .later }
def SealedHoldsUptoCardSaid : Prop := Claim7.holds Tryz.pinned (.plain (OpenSpec.upto sealedHoldsSpec)) sealedHoldsUptoCard

/-- THE SECOND FORM's CARD OF 'baileelaw27.JudgePlaces'. -/
def judgePlacesUptoCard : Claim7 := { stood := { row := judgePlacesUptoRow, standIns := [], harness := (true, "0d8f2031dbefcdf14db00a2af503dd6d290c87bcbaaa74613a40f459afb991da"), looks := true }, kinds := [], alts := [], laidByText := true, laidKinds := [.data, .data, .data, .sentinel, .sentinel, .sentinel, .sentinel, .sentinel, .sentinel, .sentinel, .sentinel, .sentinel, .sentinel, .sentinel, .sentinel, .sentinel, .sentinel, .sentinel, .sentinel, .sentinel, .sentinel, .sentinel, .sentinel, .data, .data, .pinned], laidTests := true, laidLooks := .later }
def JudgePlacesUptoCardSaid : Prop := Claim7.holds Tryz.pinned (.plain (OpenSpec.upto judgePlacesSpec)) judgePlacesUptoCard

/-- THE SECOND FORM's CARD OF 'baileelaw27.JudgeWhy'. -/
def judgeWhyUptoCard : Claim7 := { stood := { row := judgeWhyUptoRow, standIns := [], harness := (true, "0d8f2031dbefcdf14db00a2af503dd6d290c87bcbaaa74613a40f459afb991da"), looks := true }, kinds := [], alts := [], laidByText := true, laidKinds := [.data, .data, .data, .sentinel, .sentinel, .sentinel, .sentinel, .sentinel, .sentinel, .sentinel, .sentinel, .sentinel, .sentinel, .sentinel, .sentinel, .sentinel, .sentinel, .sentinel, .sentinel, .sentinel, .sentinel, .sentinel, .sentinel, .data, .data, .pinned], laidTests := true, laidLooks := .later }
def JudgeWhyUptoCardSaid : Prop := Claim7.holds Tryz.pinned (.plain (OpenSpec.upto judgeWhySpec)) judgeWhyUptoCard
end Rows
end Go.Proofs.YtnafknkchbfpaaaGreatDoor
