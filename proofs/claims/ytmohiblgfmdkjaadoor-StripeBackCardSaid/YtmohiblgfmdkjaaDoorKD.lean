/-
  Layer 6 in plain Lean: a file padded, in blocks of eight bytes, with parity behind each group.
  Layer 6 in plain Lean: the shapes, and what the law StripeSystematic sees group by group.
-/
import Derived.Test.YtmohiblgfmdkjaaDoorGC
namespace Go.Bl
open Go.RowKit
set_option linter.unusedVariables false

def padN (n : Nat) : Nat := if n = 0 then 8 else (8 - n % 8) % 8
/-- a file with noughts behind it -/
def padL (xs : List UInt8) : List UInt8 := xs ++ List.replicate (padN xs.length) 0
theorem padL_len (xs : List UInt8) : (padL xs).length = 8 * max ((xs.length + 7) / 8) 1 := by
  simp only [padL, padN, List.length_append, List.length_replicate]
  split <;> omega
def chunkN : Nat → List UInt8 → List (List UInt8)
  | 0, _ => []
  | n + 1, l => l.take 8 :: chunkN n (l.drop 8)
theorem chunkN_len : ∀ (n : Nat) (l : List UInt8), (chunkN n l).length = n
  | 0, _ => rfl
  | n + 1, l => by simp [chunkN, chunkN_len n]
theorem chunkN_get : ∀ (n i : Nat) (l : List UInt8), i < n → (chunkN n l)[i]? = some ((l.drop (8 * i)).take 8)
  | 0, _, _, h => by omega
  | n + 1, 0, l, _ => by simp [chunkN]
  | n + 1, i + 1, l, h => by
    simp only [chunkN, List.getElem?_cons_succ]
    rw [chunkN_get n i _ (by omega), List.drop_drop, show 8 + 8 * i = 8 * (i + 1) by omega]
theorem chunkN_flat : ∀ (n : Nat) (l : List UInt8), l.length = 8 * n → (chunkN n l).flatten = l
  | 0, l, h => by
    have : l = [] := List.eq_nil_of_length_eq_zero (by omega)
    subst this; rfl
  | n + 1, l, h => by
    simp only [chunkN, List.flatten_cons]
    rw [chunkN_flat n _ (by rw [List.length_drop]; omega), List.take_append_drop]
theorem chunkN_eight (n : Nat) (l : List UInt8) (h : l.length = 8 * n) : ∀ x ∈ chunkN n l, x.length = 8 := by
  intro x hx
  obtain ⟨i, hi, rfl⟩ := List.getElem_of_mem hx
  rw [chunkN_len] at hi
  have := chunkN_get n i l hi
  rw [List.getElem?_eq_getElem (by rw [chunkN_len]; exact hi)] at this
  rw [Option.some.inj this, List.length_take, List.length_drop]
  omega
/-- the parity blocks of a group -/
def parB (data : List (List UInt8)) : List (List UInt8) := (List.range 32).map fun i => (List.range 8).map fun j => (parL (data.map fun b => b.getD j 0)).getD i 0
theorem parB_len (data : List (List UInt8)) : (parB data).length = 32 := by simp [parB]
def grpB (data : List (List UInt8)) : List (List UInt8) := data ++ parB data
/-- all blocks: data, a group's length each -/
def blkGo : List (List UInt8) → List Nat → List (List UInt8)
  | _, [] => []
  | data, k :: sh => grpB (data.take k) ++ blkGo (data.drop k) sh
theorem blkGo_cons (data : List (List UInt8)) (k : Nat) (sh : List Nat) (h : k ≤ data.length) :
    (blkGo data (k :: sh)).take k = data.take k ∧ (blkGo data (k :: sh)).drop (k + 32) = blkGo (data.drop k) sh ∧ k + 32 ≤ (blkGo data (k :: sh)).length := by
  have hl : (data.take k).length = k := by rw [List.length_take]; omega
  have h1 : (grpB (data.take k)).length = k + 32 := by simp [grpB, parB_len, hl]
  refine ⟨?_, ?_, ?_⟩
  · simp only [blkGo, grpB, List.append_assoc]
    rw [List.take_append_of_le_length (by omega), List.take_of_length_le (by omega)]
  · simp only [blkGo]
    rw [List.drop_append_of_le_length (by omega), List.drop_of_length_le (by omega), List.nil_append]
  · simp only [blkGo, List.length_append, h1]; omega
theorem blkGo_len (data : List (List UInt8)) : ∀ (sh : List Nat) (data : List (List UInt8)), sh.sum ≤ data.length → (blkGo data sh).length = sh.sum + 32 * sh.length
  | [], data, h => by simp [blkGo]
  | k :: sh, data, h => by
    simp only [List.sum_cons] at h
    have hl : (data.take k).length = k := by rw [List.length_take]; omega
    simp only [blkGo, List.length_append, grpB, parB_len, hl, List.sum_cons, List.length_cons]
    rw [blkGo_len data sh _ (by rw [List.length_drop]; omega)]
    omega
end Go.Bl
namespace Go.Bl
open Go.RowKit
set_option linter.unusedVariables false

def shN (n : Nat) : List Nat := if n ≤ 223 then [n] else [223, n - 223]
theorem shN_sum (n : Nat) : (shN n).sum = n := by
  unfold shN
  split
  · simp
  · simp; omega
theorem shN_len (n : Nat) : (shN n).length ≤ 2 := by unfold shN; split <;> simp
theorem shN_bd (n : Nat) (h1 : 1 ≤ n) (h2 : n ≤ 250) : ∀ k ∈ shN n, 1 ≤ k ∧ k ≤ 223 := by
  unfold shN
  intro k hk
  split at hk
  · simp at hk; omega
  · simp at hk; omega
theorem sum_take_le (sh : List Nat) (i : Nat) : (sh.take i).sum ≤ sh.sum := by
  conv => rhs; rw [← List.take_append_drop i sh, List.sum_append]
  omega
theorem sys_step (data : List (List UInt8)) (sh : List Nat) (i k : Nat) (h : sh[i]? = some k) (hs : sh.sum ≤ data.length) :
    (sh.take (i + 1)).sum = (sh.take i).sum + k ∧ (sh.take i).sum + k ≤ data.length ∧ sh.drop i = k :: sh.drop (i + 1) ∧
    blkGo (data.drop (sh.take i).sum) (sh.drop i) = grpB ((data.drop (sh.take i).sum).take k) ++ blkGo (data.drop ((sh.take i).sum + k)) (sh.drop (i + 1)) ∧
    (data.take ((sh.take i).sum + k)).flatten = (data.take (sh.take i).sum).flatten ++ ((data.drop (sh.take i).sum).take k).flatten := by
  have h1 : (sh.take (i + 1)).sum = (sh.take i).sum + k := by
    rw [List.take_add_one, h]
    simp
  have hi : i < sh.length := (List.getElem?_eq_some_iff.1 h).1
  have h2 : sh.drop i = k :: sh.drop (i + 1) := by
    rw [List.drop_eq_getElem_cons hi]
    rw [List.getElem?_eq_getElem hi] at h
    rw [Option.some.inj h]
  have h3 := sum_take_le sh (i + 1)
  refine ⟨h1, by omega, h2, ?_, ?_⟩
  · rw [h2]
    simp only [blkGo, List.drop_drop]
  · rw [List.take_add, List.flatten_append]
theorem grp_take (d : List (List UInt8)) (k : Nat) (rest : List (List UInt8)) (h : d.length = k) : (grpB d ++ rest).take k = d ∧ (grpB d ++ rest).drop (k + 32) = rest ∧ k + 32 ≤ (grpB d ++ rest).length := by
  have h1 : (grpB d).length = k + 32 := by simp [grpB, parB_len, h]
  refine ⟨?_, ?_, ?_⟩
  · rw [List.take_append_of_le_length (by omega)]
    unfold grpB
    rw [List.take_append_of_le_length (by omega), List.take_of_length_le (by omega)]
  · rw [List.drop_append_of_le_length (by omega), List.drop_of_length_le (by omega), List.nil_append]
  · rw [List.length_append]; omega
/-- a file's blocks -/
def nB (n : Nat) : Nat := max ((n + 7) / 8) 1
def dataL (xs : List UInt8) : List (List UInt8) := chunkN (nB xs.length) (padL xs)
def blocksL (xs : List UInt8) : List (List UInt8) := blkGo (dataL xs) (shN (nB xs.length))
theorem dataL_len (xs : List UInt8) : (dataL xs).length = nB xs.length := chunkN_len _ _
theorem dataL_flat (xs : List UInt8) : (dataL xs).flatten = padL xs := chunkN_flat _ _ (padL_len xs)
theorem dataL_eight (xs : List UInt8) : ∀ x ∈ dataL xs, x.length = 8 := chunkN_eight _ _ (padL_len xs)
theorem pad_take (xs : List UInt8) : (padL xs).take xs.length = xs := by unfold padL; rw [List.take_append_of_le_length (Nat.le_refl _), List.take_length]
theorem pad_le (xs : List UInt8) : xs.length ≤ (padL xs).length := by unfold padL; rw [List.length_append]; omega
theorem pad_eight (xs : List UInt8) : (padL xs).length % 8 = 0 := by rw [padL_len]; omega
theorem sys_end (xs : List UInt8) : ((dataL xs).take ((shN (nB xs.length)).take (shN (nB xs.length)).length).sum).flatten = padL xs := by
  rw [List.take_length, shN_sum, ← dataL_len xs, List.take_length, dataL_flat]
end Go.Bl
