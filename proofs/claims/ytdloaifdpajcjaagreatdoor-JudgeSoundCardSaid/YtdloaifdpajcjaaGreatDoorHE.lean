import Derived.Test.YtdloaifdpajcjaaGreatDoorGS
set_option linter.unusedVariables false
set_option linter.unusedSimpArgs false
namespace Go.Proofs.YtdloaifdpajcjaaGreatDoor
open Go.RowKit Go.Bl
theorem yB.keepS {w w' : World} {kb g : Nat} {key : List UInt8} {c : Array Value} (h : yB w kb key) (hf : Fr [g] w w') (hg : At w g (.cells c 190)) : yB w' kb key := by
 obtain ⟨g1, g2, a, b, d⟩ := h
 exact ⟨g1, g2, a.keep hf (by simpa using qdg a hg Y86), b.keep hf (by simpa using qdg b hg Y86), d.keep hf (by simpa using qdg d hg Y86)⟩
def YU (w : World) (ob kb n bw : Nat) : Prop := At w ob (.cells #[.pointer (some ⟨kb, 0, none⟩), .int .i64 (n : Int), .int .i64 (bw : Int)] 266)
theorem YU.keep {w w' : World} {ob kb n bw : Nat} (h : YU w ob kb n bw) (hf : Fr [] w w') : YU w' ob kb n bw := At.keep0 h hf
end Go.Proofs.YtdloaifdpajcjaaGreatDoor
