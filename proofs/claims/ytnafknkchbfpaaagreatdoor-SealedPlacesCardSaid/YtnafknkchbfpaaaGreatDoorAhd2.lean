import Derived.Test.YtnafknkchbfpaaaGreatDoorAhd
namespace Go.Proofs.YtnafknkchbfpaaaGreatDoor
open Go.RowKit Go.Bl
set_option linter.unusedVariables false
end Go.Proofs.YtnafknkchbfpaaaGreatDoor
