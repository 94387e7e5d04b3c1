import Derived.Test.YtmohiblgfmdkjaaGreatDoorHG
import Derived.Test.YtmohiblgfmdkjaaGreatDoorGF
namespace Go.Proofs.YtmohiblgfmdkjaaGreatDoor
open Go.RowKit Go.Bl
set_option linter.unusedVariables false
theorem gpw_two (k : Nat) : gpw 2 k = gexp k := by
  rw [show (2 : UInt8) = gexp 1 from by decide, gpw_gexp, Nat.one_mul]
set_option maxHeartbeats 1000000 in
theorem cpower_any (w : World) (n p : Nat) (h1 : 33 ≤ n) (h2 : n ≤ 255) (hp : p < n) : Calls Tryz.prog 75 #[.int .i64 n, .int .i64 p] w fun e w' => e = .returned (.int .u8 ((plX n p).toNat : Int)) ∧ Fr [] w w' := by
  have hw1 : IntKind.i64.wrap ((n : Int) - 32) = ((n - 32 : Nat) : Int) := by rw [IntKind.wrap_i64]; omega
  have hw2 : IntKind.i64.wrap ((n : Int) - 1) = ((n - 1 : Nat) : Int) := by rw [IntKind.wrap_i64]; omega
  have hw3 : IntKind.i64.wrap (((n - 1 : Nat) : Int) - p) = ((n - 1 - p : Nat) : Int) := by rw [IntKind.wrap_i64]; omega
  have hp0 : ¬ (p : Int) < 0 := by omega
  have hpn : ¬ (n : Int) ≤ p := by omega
  have HX := Lib.hid (fun w => exp_any w (n - 1 - p) (by omega))
  have hm : (0 : Int) < ((n - 32 : Nat) : Int) := by omega
  have hm2 : ((n - 32 : Nat) : Int) ≤ 223 := by omega
  go_enter Tryz.func75, Tryz.ntmps75
  go_wp2_with (first | (go_at_call 87; refine (HX.out _).mono ?_; rintro e w1 ⟨rfl, hf⟩) | (go_at_call 39; go_in))
  go_wp2
  go_ret
  exact ⟨rfl, hf⟩
set_option maxHeartbeats 1000000 in
theorem r3power_any (w : World) (n p : Nat) (h2 : n ≤ 255) (hp : p < n) : Calls Tryz.prog 56 #[.int .i64 n, .int .i64 p] w fun e w' => e = .returned (.int .u8 ((plX n p).toNat : Int)) ∧ Fr [] w w' := by
  have hw2 : IntKind.i64.wrap ((n : Int) - 1) = ((n - 1 : Nat) : Int) := by rw [IntKind.wrap_i64]; omega
  have hw3 : IntKind.i64.wrap (((n - 1 : Nat) : Int) - p) = ((n - 1 - p : Nat) : Int) := by rw [IntKind.wrap_i64]; omega
  have HX := Lib.hid (fun w => rpow_any w 2 (n - 1 - p) (by omega))
  rw [gpw_two] at HX
  go_enter Tryz.func56, Tryz.ntmps56
  go_wp2_with (go_at_call 63; fail)
  refine (HX.out _).mono ?_
  rintro e w1 ⟨rfl, hf⟩
  have HF := Lib.hid hf
  clear hf
  go_wp2
  go_ret
  exact ⟨rfl, HF.out⟩
set_option maxHeartbeats 1000000 in
theorem r3sized_any (w : World) (n : Int) : Calls Tryz.prog 54 #[.int .i64 n] w fun e w' => e = .returned (.bool (decide (33 ≤ n ∧ n ≤ 255))) ∧ w' = w := by
  go_enter Tryz.func54, Tryz.ntmps54
  by_cases h1 : 33 ≤ n
  · by_cases h2 : n ≤ 255
    · go_wp2
      go_ret
      exact ⟨by simp [h1, h2], rfl⟩
    · go_wp2
      go_ret
      exact ⟨by simp [h1, h2], rfl⟩
  · go_wp2
    go_ret
    exact ⟨by simp; omega, rfl⟩
set_option maxHeartbeats 1000000 in
theorem lsized_any (w : World) (n : Int) : Calls Tryz.prog 72 #[.int .i64 n] w fun e w' => e = .returned (.bool (decide (33 ≤ n ∧ n ≤ 255))) ∧ w' = w := by
  go_enter Tryz.func72, Tryz.ntmps72
  by_cases h1 : 33 ≤ n
  · have h1' : (32 : Int) < n := by omega
    by_cases h2 : n ≤ 255
    · go_wp2
      go_ret
      exact ⟨by simp [h1, h2], rfl⟩
    · go_wp2
      go_ret
      exact ⟨by simp [h1, h2], rfl⟩
  · have h1' : ¬ (32 : Int) < n := by omega
    go_wp2
    go_ret
    exact ⟨by simp; omega, rfl⟩
end Go.Proofs.YtmohiblgfmdkjaaGreatDoor
