import Derived.Test.YtnafknkchbfpaaaGreatDoorRows
import Derived.JoinedCond
set_option linter.unusedVariables false
set_option linter.unusedSimpArgs false
namespace Go.Proofs.YtnafknkchbfpaaaGreatDoor
theorem qeK : joinedFacts Tryz.pinned.checked.prog 7 Tryz.f7 (OpenSpec.ofChange Rows.judgePlacesSpec).bare Rows.judgePlacesRow = true := by kernel_rfl
end Go.Proofs.YtnafknkchbfpaaaGreatDoor
