import Derived.Test.YtnafknkchbfpaaaGreatDoorAhd2
namespace Go.Proofs.YtnafknkchbfpaaaGreatDoor
open Go.RowKit Go.Bl
set_option linter.unusedVariables false
end Go.Proofs.YtnafknkchbfpaaaGreatDoor
