import Derived.Test.YtnafknkchbfpaaaGreatDoorGB
import Derived.Lib.BufferRead
import Derived.ProofKit
import Derived.Shelf.Small.Bits
import Derived.Test.YtnafknkchbfpaaaGreatDoorProg
set_option linter.unusedVariables false
set_option linter.unusedSimpArgs false
namespace Go.Bl
open Go.RowKit
end Go.Bl
namespace Go.Proofs
open Go.Shelf
end Go.Proofs
