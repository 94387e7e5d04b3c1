import Derived.Test.YtdloaifdpajcjaaGreatDoorRows
import Derived.JoinedCond
set_option linter.unusedVariables false
set_option linter.unusedSimpArgs false
namespace Go.Proofs.YtdloaifdpajcjaaGreatDoor
theorem qho : joinedFacts Tryz.pinned.checked.prog 3 Tryz.f3 (OpenSpec.ofChange Rows.judgeSoundSpec).bare Rows.judgeSoundRow = true := by kernel_rfl
end Go.Proofs.YtdloaifdpajcjaaGreatDoor
