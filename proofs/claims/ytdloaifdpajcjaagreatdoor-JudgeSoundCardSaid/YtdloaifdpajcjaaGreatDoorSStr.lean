import Derived.Shelf.Small.Bits
import Derived.Test.YtdloaifdpajcjaaGreatDoorProg
import Derived.Test.YtdloaifdpajcjaaGreatDoorGB
import Derived.Lib.BufferRead
import Derived.ProofKit
set_option linter.unusedVariables false
set_option linter.unusedSimpArgs false
namespace Go.Proofs
open Go.Shelf
def Tryz.lays125_ren : Go.Shelf.Ren := ⟨fun | 125 => 162 | 128 => 210 | 129 => 211 | n => n, fun | 46 => 238 | 3 => 3 | 51 => 209 | 53 => 191 | 4 => 4 | 5 => 5 | 9 => 9 | n => n, fun | n => n⟩
theorem Tryz.lays125 : Go.Proofs.Lays.n125 Tryz.prog Tryz.lays125_ren := {
 mixed := by kernel_rfl
 f125 := Tryz.func162.trans (congrArg some Y55)
 f128 := Tryz.func210.trans (congrArg some Y55)
 f129 := Tryz.func211.trans (congrArg some Y55)
 t3 := Tryz.underlying3
 a3 := Tryz.isAgg3
 z3 := Tryz.sizeOf3
 v3 := Tryz.zeroValue3
 t4 := Tryz.underlying4
 a4 := Tryz.isAgg4
 z4 := Tryz.sizeOf4
 v4 := Tryz.zeroValue4
 t5 := Tryz.underlying5
 a5 := Tryz.isAgg5
 z5 := Tryz.sizeOf5
 v5 := Tryz.zeroValue5
 t9 := Tryz.underlying9
 a9 := Tryz.isAgg9
 z9 := Tryz.sizeOf9
 v9 := Tryz.zeroValue9
 t46 := Tryz.underlying238
 a46 := Tryz.isAgg238
 z46 := Tryz.sizeOf238
 v46 := Tryz.zeroValue238
 t51 := Tryz.underlying209
 a51 := Tryz.isAgg209
 z51 := Tryz.sizeOf209
 v51 := Tryz.zeroValue209
 t53 := Tryz.underlying191
 a53 := Tryz.isAgg191
 z53 := Tryz.sizeOf191
 v53 := Tryz.zeroValue191 }
theorem Tryz.bits_Len (x : Int) (w : World) (h0 : 0 <= x) (h1 : x <= 18446744073709551615) :
  Calls Tryz.prog 162 #[.int .u64 x] w fun e w' => e = .returned (.int .i64 (Lib.bitLen x.toNat)) /\ w' = w := Any.bits_Len Tryz.lays125 x w h0 h1
end Go.Proofs
namespace Go.Bl
open Go.RowKit
end Go.Bl
