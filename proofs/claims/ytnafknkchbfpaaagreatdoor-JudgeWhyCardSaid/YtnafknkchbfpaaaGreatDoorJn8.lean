import Derived.Test.YtnafknkchbfpaaaGreatDoorRows
import Derived.JoinedCond
set_option linter.unusedVariables false
set_option linter.unusedSimpArgs false
namespace Go.Proofs.YtnafknkchbfpaaaGreatDoor
theorem qe0 : joinedFacts Tryz.pinned.checked.prog 8 Tryz.f8 (OpenSpec.ofChange Rows.judgeWhySpec).bare Rows.judgeWhyRow = true := by kernel_rfl
end Go.Proofs.YtnafknkchbfpaaaGreatDoor
