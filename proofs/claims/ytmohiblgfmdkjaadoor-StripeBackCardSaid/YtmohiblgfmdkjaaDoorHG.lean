/-
  The document's layer 1: baileeref01.Mul is the table's product.
  Layer 2: the document's At: a coefficient.
  Layer 1: the document's Power and Inv.
-/
import Derived.Test.YtmohiblgfmdkjaaDoorGD
import Derived.Test.YtmohiblgfmdkjaaDoorGC
import Derived.Test.YtmohiblgfmdkjaaDoorJM
import Derived.Test.YtmohiblgfmdkjaaDoorGF
namespace Go.Proofs.YtmohiblgfmdkjaaDoor
open Go.RowKit Go.Bl
set_option linter.unusedVariables false

theorem bit_odd (n j : Nat) : (((n : Int) / 2 ^ j).tmod 2 == 1) = decide (n / 2 ^ j % 2 = 1) := by
  have h : ((n : Int) / 2 ^ j) = ((n / 2 ^ j : Nat) : Int) := by simp
  rw [h, show (2 : Int) = ((2 : Nat) : Int) from rfl, ← Int.ofNat_tmod]
  by_cases hc : n / 2 ^ j % 2 = 1
  · simp [hc]
  · rw [decide_eq_false hc]
    simp only [beq_eq_false_iff_ne]
    omega
theorem xor_up (P x j : Nat) (hP : P < 65536) (hx : x * 2 ^ j < 65536) : bits .xor .i64 (P : Int) (wrap64 ((x : Int) * 2 ^ j)) = ((P ^^^ x * 2 ^ j : Nat) : Int) ∧ P ^^^ x * 2 ^ j < 65536 := by
  have h : ((x : Int) * 2 ^ j) = ((x * 2 ^ j : Nat) : Int) := by simp
  rw [h, show wrap64 ((x * 2 ^ j : Nat) : Int) = ((x * 2 ^ j : Nat) : Int) by unfold wrap64; omega, i64_xor_nat _ _ hP hx]
  exact ⟨rfl, Nat.xor_lt_two_pow (n := 16) hP hx⟩
theorem pow_le8 (x j : Nat) (hx : x < 512) (hj : j < 8) : x * 2 ^ j < 65536 := by
  have h : 2 ^ j ≤ 2 ^ 7 := Nat.pow_le_pow_right (by omega) (by omega)
  calc x * 2 ^ j ≤ x * 2 ^ 7 := Nat.mul_le_mul_left _ h
    _ < 65536 := by omega

end Go.Proofs.YtmohiblgfmdkjaaDoor
namespace Go.Proofs.YtmohiblgfmdkjaaDoor
open Go.RowKit Go.Bl
set_option linter.unusedVariables false
end Go.Proofs.YtmohiblgfmdkjaaDoor
namespace Go.Proofs.YtmohiblgfmdkjaaDoor
open Go.RowKit Go.Bl
set_option linter.unusedVariables false
theorem gpw_inv (a : UInt8) : gpw a 254 = ginv a := by
  by_cases h : a = 0
  · subst h
    rw [ginv_zero]
    exact gmul_zero _
  · obtain ⟨k, hk, rfl⟩ := gexp_onto a h
    rw [gpw_gexp, ginv_gexp k hk, ← gexp_rest (k * 254), ← gexp_rest (255 - k)]
    congr 1
    omega
end Go.Proofs.YtmohiblgfmdkjaaDoor
