import Derived.Test.YtdloaifdpajcjaaGreatDoorPO
set_option linter.unusedVariables false
set_option linter.unusedSimpArgs false
set_option maxRecDepth 1000000
set_option maxHeartbeats 8000000
namespace Go.Bl
open Go.RowKit Go.Proofs
attribute [local irreducible] qz
set_option cbv.maxSteps 50000000
open Go.Proofs.YtdloaifdpajcjaaGreatDoor (xN Uv YG qbg qdm)
attribute [local irreducible] qer qdb xI Qk
abbrev wH (h : Hh) (x : UInt32) : PV := .v (.int .u32 (h _ fun _ => wN x))
attribute [local irreducible] qT zY jJ ji
theorem sl0 {α : Type} {off : Nat} {c : α} {X : List α} : (splice off [c] X).length = min off X.length + 1 + (X.length - (off + 1)) := by simp [splice]; omega
end Go.Bl
namespace Go.Bl
open Go.RowKit Go.Proofs
attribute [local irreducible] qz
attribute [simp] jv
end Go.Bl
namespace Go.Bl
open Go.RowKit Go.Proofs
attribute [local irreducible] qz
open Go.Proofs.YtdloaifdpajcjaaGreatDoor (Par chk blk qU yH qR Qj xf Sh xQ Z1 yM)
end Go.Bl
namespace Go.Bl
open Go.RowKit Go.Proofs
attribute [local irreducible] qz
open Go.Proofs.YtdloaifdpajcjaaGreatDoor (beK b8 beK_len qdM qf2 qdS qg qj qS ql qG jd jK Lq Lt qbx)
structure x9 (S : ByteArray) : Prop where
 pos : 0 < S.size
 lt : S.size < 13
 abc : ∀ (i : Nat) (c : UInt8), S.data.toList[i]? = some c -> 97 <= c.toNat /\ c.toNat <= 122
end Go.Bl
namespace Go.Bl
open Go.RowKit Go.Proofs
attribute [local irreducible] qz
open Go.Proofs.YtdloaifdpajcjaaGreatDoor (beK b8 ZZ beK_len fnS vY ua Jp xG xH qA jO)
end Go.Bl
namespace Go.Bl
open Go.RowKit Go.Proofs
attribute [local irreducible] qz
open Go.Proofs.YtdloaifdpajcjaaGreatDoor (Par chk blk qU qj qg qS ql qG jd jK qA jO jL jy beK beK_len)
end Go.Bl
namespace Go.Bl
open Go.RowKit Go.Proofs
attribute [local irreducible] qz
open Go.Proofs.YtdloaifdpajcjaaGreatDoor (beK jy)
end Go.Bl
namespace Go.Bl
open Go.RowKit Go.Proofs
attribute [local irreducible] qz
open Go.Proofs.YtdloaifdpajcjaaGreatDoor (beK jy)
end Go.Bl
namespace Go.Bl
open Go.RowKit Go.Proofs
attribute [local irreducible] qz
open Go.Proofs.YtdloaifdpajcjaaGreatDoor (Par chk blk qU qj qg qS ql qG jd jK qA jO jL jy)
end Go.Bl
