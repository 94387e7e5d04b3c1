import Derived.Test.YtmohiblgfmdkjaaGreatDoorJM
import Derived.Laws.CopyOwn
namespace Go.Proofs.YtmohiblgfmdkjaaGreatDoor
open Go.RowKit Go.Bl
set_option linter.unusedVariables false
theorem sized_ok (w : World) (n : Nat) (h1 : 1 ≤ n) (h2 : n ≤ 223) : Calls Tryz.prog 39 #[.int .i64 n] w fun e w' => e = .returned (.bool true) ∧ Fr [] w w' := by
  go_enter Tryz.func39, Tryz.ntmps39
  go_wp2
  go_ret
  refine ⟨?_, Fr.refl _ _⟩
  show Ending.returned (.bool (decide ((n : Int) ≤ 223))) = _
  rw [decide_eq_true (by omega)]
theorem made_zeros (n : Nat) : madeCells #[.int .u8 0] n = ((List.replicate n (0 : UInt8)).map u8v).toArray := by
  apply Array.ext
  · simp [madeCells]
  · intro i h1 h2
    simp [madeCells, u8v, Nat.mod_one]
end Go.Proofs.YtmohiblgfmdkjaaGreatDoor
