import Derived.Test.YtnafknkchbfpaaaGreatDoorGA
import Derived.Lib.Join
import Derived.Lib.ItoaNum
import Derived.Laws.Concat
import Derived.Laws.StructEq
namespace Go.Bl
open Go.RowKit
set_option linter.unusedVariables false
def bA (l : List UInt8) : ByteArray := ⟨l.toArray⟩
theorem bA_toList (l : List UInt8) : (bA l).data.toList = l := by simp [bA]
theorem bA_tl (l : List UInt8) : (bA l).toList = l := by rw [ByteArray.toList_eq, bA_toList]
end Go.Bl
