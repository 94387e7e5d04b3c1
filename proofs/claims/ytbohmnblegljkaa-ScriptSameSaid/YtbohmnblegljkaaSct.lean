/-
  Layer 31: the guarded tests of the document's Same. (printed by gencase.py)
-/
import Derived.Test.YtbohmnblegljkaaSame
import Derived.Test.YtbohmnblegljkaaBeq
import Derived.Test.YtbohmnblegljkaaEq
namespace Go.Proofs.Ytbohmnblegljkaa
open Go.RowKit Go.Bl
set_option linter.unusedVariables false
noncomputable def sameTests : Code := ((Try.f7.body.bind (findRegion 7)).getD .skip)
end Go.Proofs.Ytbohmnblegljkaa
