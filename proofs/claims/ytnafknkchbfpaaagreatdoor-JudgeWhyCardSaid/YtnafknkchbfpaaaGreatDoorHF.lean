import Derived.Test.YtnafknkchbfpaaaGreatDoorHE
set_option linter.unusedVariables false
set_option linter.unusedSimpArgs false
namespace Go.Proofs.YtnafknkchbfpaaaGreatDoor
open Go.RowKit Go.Bl
def Yc (w : World) (ob kb n bw : Nat) : Prop := At w ob (.cells #[.pointer (some ⟨kb, 0, none⟩), .int .i64 (n : Int), .int .i64 (bw : Int)] 250)
theorem Yc.keep {w w' : World} {ob kb n bw : Nat} (h : Yc w ob kb n bw) (hf : Fr [] w w') : Yc w' ob kb n bw := At.keep0 h hf
end Go.Proofs.YtnafknkchbfpaaaGreatDoor
