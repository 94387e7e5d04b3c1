import Derived.Test.YtnafknkchbfpaaaGreatDoorGS
import Derived.Test.YtnafknkchbfpaaaGreatDoorHG
set_option linter.unusedVariables false
set_option linter.unusedSimpArgs false
namespace Go.Proofs.YtnafknkchbfpaaaGreatDoor
open Go.RowKit Go.Bl
structure RG (w : World) : Prop where
 f : FAt 20 w
 k : KAt 21 w
 g : 21 < w.heap.size
theorem RG.keep {w w' : World} (h : RG w) (hf : Fr [] w w') : RG w' := ⟨h.f.keep hf, h.k.keep hf, Nat.lt_of_lt_of_le h.g hf.size⟩
end Go.Proofs.YtnafknkchbfpaaaGreatDoor
