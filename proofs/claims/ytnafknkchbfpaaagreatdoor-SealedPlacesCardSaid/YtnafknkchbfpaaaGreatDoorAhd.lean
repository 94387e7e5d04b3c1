import Derived.Test.YtnafknkchbfpaaaGreatDoorGG
namespace Go.Proofs.YtnafknkchbfpaaaGreatDoor
open Go.RowKit Go.Bl
set_option linter.unusedVariables false
def pv (p : Par) : Value := .agg #[.int .i64 p.size, .int .i64 p.sent, .int .i64 p.spots, .int .i64 p.per, .int .i64 p.pat, .int .i64 p.ret]
end Go.Proofs.YtnafknkchbfpaaaGreatDoor
