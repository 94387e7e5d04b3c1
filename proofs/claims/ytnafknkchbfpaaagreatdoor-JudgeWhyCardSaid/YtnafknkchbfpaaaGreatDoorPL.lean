import Derived.Test.YtnafknkchbfpaaaGreatDoorPJ
set_option linter.unusedVariables false
set_option linter.unusedSimpArgs false
set_option maxRecDepth 1000000
set_option maxHeartbeats 8000000
namespace Go.Proofs.YtnafknkchbfpaaaGreatDoor
open Go.RowKit Go.Bl
end Go.Proofs.YtnafknkchbfpaaaGreatDoor
namespace Go.Bl
open Go.RowKit Go.Proofs Go.Proofs.YtnafknkchbfpaaaGreatDoor
abbrev zX (h : Hh) (p : Par) : PV := .a [iH h p.size, iH h p.sent, iH h p.spots, iH h p.per, iH h p.pat, iH h p.ret]
end Go.Bl
namespace Go.Proofs.YtnafknkchbfpaaaGreatDoor
open Go.RowKit Go.Bl
end Go.Proofs.YtnafknkchbfpaaaGreatDoor
