/-
  Layer 6 in plain Lean: the shapes, and what the law StripeSystematic sees group by group.
-/
import Derived.Test.YtenjpnhccnmnpaaDoorSyP
namespace Go.Bl
open Go.RowKit
set_option linter.unusedVariables false

def shN (n : Nat) : List Nat := if n ≤ 223 then [n] else [223, n - 223]
theorem shN_sum (n : Nat) : (shN n).sum = n := by
  unfold shN
  split
  · simp
  · simp; omega
theorem shN_len (n : Nat) : (shN n).length ≤ 2 := by unfold shN; split <;> simp
theorem shN_bd (n : Nat) (h1 : 1 ≤ n) (h2 : n ≤ 250) : ∀ k ∈ shN n, 1 ≤ k ∧ k ≤ 223 := by
  unfold shN
  intro k hk
  split at hk
  · simp at hk; omega
  · simp at hk; omega
theorem sum_take_le (sh : List Nat) (i : Nat) : (sh.take i).sum ≤ sh.sum := by
  conv => rhs; rw [← List.take_append_drop i sh, List.sum_append]
  omega
theorem sys_step (data : List (List UInt8)) (sh : List Nat) (i k : Nat) (h : sh[i]? = some k) (hs : sh.sum ≤ data.length) :
    (sh.take (i + 1)).sum = (sh.take i).sum + k ∧ (sh.take i).sum + k ≤ data.length ∧ sh.drop i = k :: sh.drop (i + 1) ∧
    blkGo (data.drop (sh.take i).sum) (sh.drop i) = grpB ((data.drop (sh.take i).sum).take k) ++ blkGo (data.drop ((sh.take i).sum + k)) (sh.drop (i + 1)) ∧
    (data.take ((sh.take i).sum + k)).flatten = (data.take (sh.take i).sum).flatten ++ ((data.drop (sh.take i).sum).take k).flatten := by
  have h1 : (sh.take (i + 1)).sum = (sh.take i).sum + k := by
    rw [List.take_add_one, h]
    simp
  have hi : i < sh.length := (List.getElem?_eq_some_iff.1 h).1
  have h2 : sh.drop i = k :: sh.drop (i + 1) := by
    rw [List.drop_eq_getElem_cons hi]
    rw [List.getElem?_eq_getElem hi] at h
    rw [Option.some.inj h]
  have h3 := sum_take_le sh (i + 1)
  refine ⟨h1, by omega, h2, ?_, ?_⟩
  · rw [h2]
    simp only [blkGo, List.drop_drop]
  · rw [List.take_add, List.flatten_append]
theorem grp_take (d : List (List UInt8)) (k : Nat) (rest : List (List UInt8)) (h : d.length = k) : (grpB d ++ rest).take k = d ∧ (grpB d ++ rest).drop (k + 32) = rest ∧ k + 32 ≤ (grpB d ++ rest).length := by
  have h1 : (grpB d).length = k + 32 := by simp [grpB, parB_len, h]
  refine ⟨?_, ?_, ?_⟩
  · rw [List.take_append_of_le_length (by omega)]
    unfold grpB
    rw [List.take_append_of_le_length (by omega), List.take_of_length_le (by omega)]
  · rw [List.drop_append_of_le_length (by omega), List.drop_of_length_le (by omega), List.nil_append]
  · rw [List.length_append]; omega
/-- a file's blocks -/
def nB (n : Nat) : Nat := max ((n + 7) / 8) 1
def dataL (xs : List UInt8) : List (List UInt8) := chunkN (nB xs.length) (padL xs)
def blocksL (xs : List UInt8) : List (List UInt8) := blkGo (dataL xs) (shN (nB xs.length))
theorem dataL_len (xs : List UInt8) : (dataL xs).length = nB xs.length := chunkN_len _ _
theorem dataL_flat (xs : List UInt8) : (dataL xs).flatten = padL xs := chunkN_flat _ _ (padL_len xs)
theorem dataL_eight (xs : List UInt8) : ∀ x ∈ dataL xs, x.length = 8 := chunkN_eight _ _ (padL_len xs)
theorem pad_take (xs : List UInt8) : (padL xs).take xs.length = xs := by unfold padL; rw [List.take_append_of_le_length (Nat.le_refl _), List.take_length]
theorem pad_le (xs : List UInt8) : xs.length ≤ (padL xs).length := by unfold padL; rw [List.length_append]; omega
theorem pad_eight (xs : List UInt8) : (padL xs).length % 8 = 0 := by rw [padL_len]; omega
theorem sys_end (xs : List UInt8) : ((dataL xs).take ((shN (nB xs.length)).take (shN (nB xs.length)).length).sum).flatten = padL xs := by
  rw [List.take_length, shN_sum, ← dataL_len xs, List.take_length, dataL_flat]
end Go.Bl
