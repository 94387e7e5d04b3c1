import Derived.Test.YtnafknkchbfpaaaGreatDoorHC
import Derived.Test.YtnafknkchbfpaaaGreatDoorPI
set_option linter.unusedVariables false
set_option linter.unusedSimpArgs false
namespace Go.Proofs.YtnafknkchbfpaaaGreatDoor
open Go.RowKit Go.Bl
theorem xf.keepS {w w' : World} {kb g : Nat} {key : List UInt8} {c : Array Value} (h : xf w kb key) (hf : Fr [g] w w') (hg : At w g (.cells c 196)) : xf w' kb key := by
 obtain ⟨g1, g2, a, b, d⟩ := h
 exact ⟨g1, g2, a.keep hf (by simpa using Q5 a hg Y76), b.keep hf (by simpa using Q5 b hg Y76), d.keep hf (by simpa using Q5 d hg Y76)⟩
end Go.Proofs.YtnafknkchbfpaaaGreatDoor
