/-
  Layer 6 in plain Lean: a file padded, in blocks of eight bytes, with parity behind each group.
-/
import Derived.Test.YtenjpnhccnmnpaaDoorPly
namespace Go.Bl
open Go.RowKit
set_option linter.unusedVariables false

def padN (n : Nat) : Nat := if n = 0 then 8 else (8 - n % 8) % 8
/-- a file with noughts behind it -/
def padL (xs : List UInt8) : List UInt8 := xs ++ List.replicate (padN xs.length) 0
theorem padL_len (xs : List UInt8) : (padL xs).length = 8 * max ((xs.length + 7) / 8) 1 := by
  simp only [padL, padN, List.length_append, List.length_replicate]
  split <;> omega
def chunkN : Nat → List UInt8 → List (List UInt8)
  | 0, _ => []
  | n + 1, l => l.take 8 :: chunkN n (l.drop 8)
theorem chunkN_len : ∀ (n : Nat) (l : List UInt8), (chunkN n l).length = n
  | 0, _ => rfl
  | n + 1, l => by simp [chunkN, chunkN_len n]
theorem chunkN_get : ∀ (n i : Nat) (l : List UInt8), i < n → (chunkN n l)[i]? = some ((l.drop (8 * i)).take 8)
  | 0, _, _, h => by omega
  | n + 1, 0, l, _ => by simp [chunkN]
  | n + 1, i + 1, l, h => by
    simp only [chunkN, List.getElem?_cons_succ]
    rw [chunkN_get n i _ (by omega), List.drop_drop, show 8 + 8 * i = 8 * (i + 1) by omega]
theorem chunkN_flat : ∀ (n : Nat) (l : List UInt8), l.length = 8 * n → (chunkN n l).flatten = l
  | 0, l, h => by
    have : l = [] := List.eq_nil_of_length_eq_zero (by omega)
    subst this; rfl
  | n + 1, l, h => by
    simp only [chunkN, List.flatten_cons]
    rw [chunkN_flat n _ (by rw [List.length_drop]; omega), List.take_append_drop]
theorem chunkN_eight (n : Nat) (l : List UInt8) (h : l.length = 8 * n) : ∀ x ∈ chunkN n l, x.length = 8 := by
  intro x hx
  obtain ⟨i, hi, rfl⟩ := List.getElem_of_mem hx
  rw [chunkN_len] at hi
  have := chunkN_get n i l hi
  rw [List.getElem?_eq_getElem (by rw [chunkN_len]; exact hi)] at this
  rw [Option.some.inj this, List.length_take, List.length_drop]
  omega
/-- the parity blocks of a group -/
def parB (data : List (List UInt8)) : List (List UInt8) := (List.range 32).map fun i => (List.range 8).map fun j => (parL (data.map fun b => b.getD j 0)).getD i 0
theorem parB_len (data : List (List UInt8)) : (parB data).length = 32 := by simp [parB]
def grpB (data : List (List UInt8)) : List (List UInt8) := data ++ parB data
/-- all blocks: data, a group's length each -/
def blkGo : List (List UInt8) → List Nat → List (List UInt8)
  | _, [] => []
  | data, k :: sh => grpB (data.take k) ++ blkGo (data.drop k) sh
theorem blkGo_cons (data : List (List UInt8)) (k : Nat) (sh : List Nat) (h : k ≤ data.length) :
    (blkGo data (k :: sh)).take k = data.take k ∧ (blkGo data (k :: sh)).drop (k + 32) = blkGo (data.drop k) sh ∧ k + 32 ≤ (blkGo data (k :: sh)).length := by
  have hl : (data.take k).length = k := by rw [List.length_take]; omega
  have h1 : (grpB (data.take k)).length = k + 32 := by simp [grpB, parB_len, hl]
  refine ⟨?_, ?_, ?_⟩
  · simp only [blkGo, grpB, List.append_assoc]
    rw [List.take_append_of_le_length (by omega), List.take_of_length_le (by omega)]
  · simp only [blkGo]
    rw [List.drop_append_of_le_length (by omega), List.drop_of_length_le (by omega), List.nil_append]
  · simp only [blkGo, List.length_append, h1]; omega
theorem blkGo_len (data : List (List UInt8)) : ∀ (sh : List Nat) (data : List (List UInt8)), sh.sum ≤ data.length → (blkGo data sh).length = sh.sum + 32 * sh.length
  | [], data, h => by simp [blkGo]
  | k :: sh, data, h => by
    simp only [List.sum_cons] at h
    have hl : (data.take k).length = k := by rw [List.length_take]; omega
    simp only [blkGo, List.length_append, grpB, parB_len, hl, List.sum_cons, List.length_cons]
    rw [blkGo_len data sh _ (by rw [List.length_drop]; omega)]
    omega
end Go.Bl
