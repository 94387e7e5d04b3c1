import Derived.Test.YtnafknkchbfpaaaGreatDoorHI
import Derived.Test.YtnafknkchbfpaaaGreatDoorSStr
import Derived.Lib.ItoaNum
set_option linter.unusedVariables false
set_option linter.unusedSimpArgs false
set_option maxRecDepth 1000000
set_option maxHeartbeats 8000000
namespace Go.Proofs.YtnafknkchbfpaaaGreatDoor
open Go.RowKit Go.Bl
theorem U4 : chk ⟨0, 0, 1, 1, 1, 0⟩ = 0 := by
 have h2 : blk 0 = 33 := by decide
 simp [chk, jh, h2]
 omega
end Go.Proofs.YtnafknkchbfpaaaGreatDoor
namespace Go.Bl
open Go.RowKit Go.Proofs
def qdK (x : Bool × Nat × Nat) : PV := .a [.v (.bool x.1), .v (.int .i64 x.2.1), .v (.int .i64 x.2.2)]
@[simp] theorem turnP_w (x : Bool × Nat × Nat) : (qdK x).cells.length = 3 := rfl
end Go.Bl
namespace Go.Bl
open Go.RowKit
def qeV (ts : List (Bool × Nat × Nat)) (d : Dg) (ps : List Dg) (k : Nat) : Dg := qcs (ts.take k) d (ps.take k)
def qfB (ts : List (Bool × Nat × Nat)) (d : Dg) (ps : List Dg) (k : Nat) : List UInt8 := 1 :: (if (ts.getD k (false, 0, 0)).1 then qeV ts d ps k ++ ps.getD k [] else ps.getD k [] ++ qeV ts d ps k)
def qe4 (ts : List (Bool × Nat × Nat)) (leaf : List UInt8) (ps : List Dg) (k : Nat) : List (List UInt8) := (0 :: leaf) :: (List.range k).map (qfB ts (qeZ leaf) ps)
@[simp] theorem wayL_len (ts : List (Bool × Nat × Nat)) (leaf : List UInt8) (ps : List Dg) (k : Nat) : (qe4 ts leaf ps k).length = k + 1 := by simp [qe4]
end Go.Bl
namespace Go.Bl
open Go.RowKit Go.Proofs
attribute [local irreducible] qH
@[simp] theorem aP_cells (d : List UInt8) : (aP d).cells = d.map u8P := rfl
end Go.Bl
namespace Go.Bl
open Go.RowKit Go.Proofs
attribute [local irreducible] qH
attribute [local simp] LV qdK
end Go.Bl
