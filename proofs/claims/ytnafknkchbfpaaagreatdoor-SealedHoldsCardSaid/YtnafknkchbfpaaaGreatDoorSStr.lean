import Derived.Test.YtnafknkchbfpaaaGreatDoorGB
import Derived.Lib.BufferRead
import Derived.ProofKit
namespace Go.Bl
open Go.RowKit
set_option linter.unusedVariables false
end Go.Bl
