/-
  Layer 3: the value that stands for a place, of the program and of the document.
-/
import Derived.Test.YtmohiblgfmdkjaaDoorHG
import Derived.Test.YtmohiblgfmdkjaaDoorGF
namespace Go.Proofs.YtmohiblgfmdkjaaDoor
open Go.RowKit Go.Bl
set_option linter.unusedVariables false
theorem gpw_two (k : Nat) : gpw 2 k = gexp k := by
  rw [show (2 : UInt8) = gexp 1 from by decide, gpw_gexp, Nat.one_mul]
set_option maxHeartbeats 1000000 in
theorem cpower_any (w : World) (n p : Nat) (h1 : 33 ≤ n) (h2 : n ≤ 255) (hp : p < n) : Calls Tryd.prog 105 #[.int .i64 n, .int .i64 p] w fun e w' => e = .returned (.int .u8 ((plX n p).toNat : Int)) ∧ Fr [] w w' := by
  have hw1 : IntKind.i64.wrap ((n : Int) - 32) = ((n - 32 : Nat) : Int) := by rw [IntKind.wrap_i64]; omega
  have hw2 : IntKind.i64.wrap ((n : Int) - 1) = ((n - 1 : Nat) : Int) := by rw [IntKind.wrap_i64]; omega
  have hw3 : IntKind.i64.wrap (((n - 1 : Nat) : Int) - p) = ((n - 1 - p : Nat) : Int) := by rw [IntKind.wrap_i64]; omega
  have hp0 : ¬ (p : Int) < 0 := by omega
  have hpn : ¬ (n : Int) ≤ p := by omega
  have HX := Lib.hid (fun w => exp_any w (n - 1 - p) (by omega))
  have hm : (0 : Int) < ((n - 32 : Nat) : Int) := by omega
  have hm2 : ((n - 32 : Nat) : Int) ≤ 223 := by omega
  go_enter Tryd.func105, Tryd.ntmps105
  go_wp2_with (first | (go_at_call 80; refine (HX.out _).mono ?_; rintro e w1 ⟨rfl, hf⟩) | (go_at_call 62; go_in))
  go_wp2
  go_ret
  exact ⟨rfl, hf⟩
set_option maxHeartbeats 1000000 in
theorem lsized_any (w : World) (n : Int) : Calls Tryd.prog 102 #[.int .i64 n] w fun e w' => e = .returned (.bool (decide (33 ≤ n ∧ n ≤ 255))) ∧ w' = w := by
  go_enter Tryd.func102, Tryd.ntmps102
  by_cases h1 : 33 ≤ n
  · have h1' : (32 : Int) < n := by omega
    by_cases h2 : n ≤ 255
    · go_wp2
      go_ret
      exact ⟨by simp [h1, h2], rfl⟩
    · go_wp2
      go_ret
      exact ⟨by simp [h1, h2], rfl⟩
  · have h1' : ¬ (32 : Int) < n := by omega
    go_wp2
    go_ret
    exact ⟨by simp; omega, rfl⟩
end Go.Proofs.YtmohiblgfmdkjaaDoor
