/-
  Layer 6 in plain Lean: what a group's blocks are rebuilt to.
  Layer 6 in plain Lean: what all groups of blocks are rebuilt to.
-/
import Derived.Test.YtmohiblgfmdkjaaDoorHP
import Derived.Test.YtmohiblgfmdkjaaDoorJD
import Derived.Test.YtmohiblgfmdkjaaDoorJH
namespace Go.Proofs.YtmohiblgfmdkjaaDoor
open Go.RowKit Go.Bl
set_option linter.unusedVariables false
/-- a byte of each block -/
def colW (bs : List (List UInt8)) (j : Nat) : List UInt8 := bs.map (col8 j)
theorem colW_len (bs : List (List UInt8)) (j : Nat) : (colW bs j).length = bs.length := by simp [colW]
/-- the blocks that are gone, below k -/
def gonK (bs : List (List UInt8)) (k : Nat) : List Nat := (List.range k).filter fun i => decide ((bs.getD i []).length ≠ 8)
def gon (bs : List (List UInt8)) : List Nat := gonK bs bs.length
theorem gonK_up (bs : List (List UInt8)) (k : Nat) : gonK bs (k + 1) = gonK bs k ++ (if (bs.getD k []).length = 8 then [] else [k]) := by
  unfold gonK
  rw [List.range_succ, List.filter_append]
  congr 1
  rw [List.filter_cons, List.filter_nil]
  by_cases h : (bs.getD k []).length = 8
  · rw [if_pos h, if_neg (by simpa using h)]
  · rw [if_neg h, if_pos (by simpa using h)]
theorem gonK_le (bs : List (List UInt8)) (k : Nat) : (gonK bs k).length ≤ k := by
  unfold gonK
  exact Nat.le_trans (List.length_filter_le _ _) (by simp)
theorem mem_gon {bs : List (List UInt8)} {i : Nat} : i ∈ gon bs ↔ i < bs.length ∧ (bs.getD i []).length ≠ 8 := by
  unfold gon gonK
  rw [List.mem_filter, List.mem_range]
  simp
theorem gon_nodup (bs : List (List UInt8)) : (gon bs).Nodup := List.nodup_range.sublist List.filter_sublist
/-- is a column repaired? -/
def fixOk (bs : List (List UInt8)) (j : Nat) : Prop := eraBad (bs.length : Int) (intL (gon bs)) = 0 ∧ mGood (colW bs j) (intL (gon bs))
/-- and to what -/
def fixW (bs : List (List UInt8)) (j : Nat) : List UInt8 := mOut (colW bs j) (intL (gon bs))
theorem fixW_len (bs : List (List UInt8)) (j : Nat) : (fixW bs j).length = bs.length := by
  unfold fixW
  rw [mOut_len, colW_len]
def fixB (bs : List (List UInt8)) (m r : Nat) : UInt8 := cf (fixW bs m) r
/-- the places where something was changed, in the first J columns -/
def hitK (bs : List (List UInt8)) (J : Nat) : List Nat := (List.range J).flatMap fun j => dfrK (colW bs j) (fixW bs j) bs.length
theorem hitK_up (bs : List (List UInt8)) (J : Nat) : hitK bs (J + 1) = hitK bs J ++ dfrK (colW bs J) (fixW bs J) bs.length := by
  unfold hitK
  rw [List.range_succ, List.flatMap_append]
  simp
def nHit (bs : List (List UInt8)) (k : Nat) : Nat := ((List.range k).filter fun i => decide (i ∈ hitK bs 8) && decide ((bs.getD i []).length = 8)).length
theorem nHit_up (bs : List (List UInt8)) (k : Nat) : nHit bs (k + 1) = nHit bs k + (if k ∈ hitK bs 8 ∧ (bs.getD k []).length = 8 then 1 else 0) := by
  unfold nHit
  rw [List.range_succ, List.filter_append, List.length_append]
  congr 1
  rw [List.filter_cons, List.filter_nil]
  by_cases h1 : k ∈ hitK bs 8
  · by_cases h2 : (bs.getD k []).length = 8
    · rw [if_pos (by rw [decide_eq_true h1, decide_eq_true h2]; rfl), if_pos ⟨h1, h2⟩]; rfl
    · rw [if_neg (by rw [decide_eq_true h1, decide_eq_false h2]; simp), if_neg (fun h => h2 h.2)]; rfl
  · rw [if_neg (by rw [decide_eq_false h1]; simp), if_neg (fun h => h1 h.1)]; rfl
theorem nHit_le (bs : List (List UInt8)) (k : Nat) : nHit bs k ≤ k := by
  unfold nHit
  exact Nat.le_trans (List.length_filter_le _ _) (by simp)
/-- the rows behind j columns and i bytes of the next one -/
def rwN (n : Nat) (P : Nat → Nat → UInt8) (j i : Nat) : List (List UInt8) := (List.range n).map fun r => (List.range 8).map fun m => if m < j ∨ (m = j ∧ r < i) then P m r else 0
theorem rwN_get (n : Nat) (P : Nat → Nat → UInt8) (j i r : Nat) (h : r < n) : (rwN n P j i)[r]? = some ((List.range 8).map fun m => if m < j ∨ (m = j ∧ r < i) then P m r else 0) := by
  simp [rwN, h]
theorem rwN_len (n : Nat) (P : Nat → Nat → UInt8) (j i : Nat) : (rwN n P j i).length = n := by simp [rwN]
theorem rwN_step (n : Nat) (P : Nat → Nat → UInt8) (j i : Nat) (hi : i < n) (hj : j < 8) (row : List UInt8) (hr : (rwN n P j i)[i]? = some row) : (rwN n P j i).set i (row.set j (P j i)) = rwN n P j (i + 1) := by
  rw [rwN_get n P j i i hi] at hr
  cases hr
  apply List.ext_getElem?
  intro r
  rcases Nat.lt_or_ge r n with h | h
  · by_cases hri : r = i
    · subst hri
      rw [List.getElem?_set_self (by rw [rwN_len]; exact h), rwN_get n P j (r + 1) r h]
      congr 1
      apply List.ext_getElem?
      intro m
      rcases Nat.lt_or_ge m 8 with hm | hm
      · by_cases hmj : m = j
        · subst hmj
          rw [List.getElem?_set_self (by simp; omega)]
          simp [hm]
        · rw [List.getElem?_set_ne (Ne.symm hmj)]
          simp [hm, hmj]
      · rw [List.getElem?_eq_none (by simp; omega), List.getElem?_eq_none (by simp; omega)]
    · rw [List.getElem?_set_ne (Ne.symm hri), rwN_get n P j i r h, rwN_get n P j (i + 1) r h]
      congr 1
      refine List.map_congr_left fun m hm => ?_
      by_cases h2 : m < j ∨ (m = j ∧ r < i)
      · rw [if_pos h2, if_pos (by omega)]
      · rw [if_neg h2, if_neg (by omega)]
  · rw [List.getElem?_eq_none (by rw [List.length_set, rwN_len]; exact h), List.getElem?_eq_none (by rw [rwN_len]; exact h)]
theorem rwN_next (n : Nat) (P : Nat → Nat → UInt8) (j : Nat) : rwN n P j n = rwN n P (j + 1) 0 := by
  unfold rwN
  refine List.map_congr_left fun r hr => List.map_congr_left fun m hm => ?_
  have := List.mem_range.1 hr
  by_cases h : m < j ∨ (m = j ∧ r < n)
  · rw [if_pos h, if_pos (by omega)]
  · rw [if_neg h, if_neg (by omega)]
theorem rwN_zero (n : Nat) (P : Nat → Nat → UInt8) : rwN n P 0 0 = List.replicate n (List.replicate 8 0) := by
  apply List.ext_getElem?
  intro r
  rcases Nat.lt_or_ge r n with h | h
  · rw [rwN_get n P 0 0 r h, List.getElem?_replicate, if_pos h]
    congr 1
  · rw [List.getElem?_eq_none (by rw [rwN_len]; exact h), List.getElem?_eq_none (by rw [List.length_replicate]; exact h)]
/-- the first m blocks as one -/
def gPart (bs : List (List UInt8)) (m : Nat) : List UInt8 := (List.range m).flatMap fun i => (List.range 8).map fun j => fixB bs j i
theorem gPart_rows (bs : List (List UInt8)) (n m : Nat) (h : m ≤ n) : ((rwN n (fixB bs) 8 0).take m).flatten = gPart bs m := by
  unfold gPart rwN
  rw [← List.map_take, List.take_range, Nat.min_eq_left h, List.flatMap_def]
  exact congrArg List.flatten (List.map_congr_left fun i _ => List.map_congr_left fun j hj => if_pos (.inl (List.mem_range.1 hj)))
theorem gPart_len (bs : List (List UInt8)) (m : Nat) : (gPart bs m).length = 8 * m := by
  unfold gPart
  induction m with
  | zero => rfl
  | succ m ih =>
    rw [show List.range (m + 1) = List.range m ++ [m] from List.range_succ, List.flatMap_append, List.length_append, ih]
    simp
    omega
theorem dfrK_lt {xs ys : List UInt8} {k p : Nat} (h : p ∈ dfrK xs ys k) : p < k := by
  unfold dfrK at h
  rw [List.mem_filter, List.mem_range] at h
  exact h.1
end Go.Proofs.YtmohiblgfmdkjaaDoor
namespace Go.Proofs.YtmohiblgfmdkjaaDoor
open Go.RowKit Go.Bl
set_option linter.unusedVariables false
/-- where the i-th group begins -/
def offN (sh : List Nat) (i : Nat) : Nat := ((sh.take i).map (· + 32)).sum
theorem offN_up (sh : List Nat) (i k : Nat) (h : sh[i]? = some k) : offN sh (i + 1) = offN sh i + (k + 32) := by
  unfold offN
  rw [List.take_add_one, h, List.map_append, List.sum_append]
  simp
theorem offN_le (sh : List Nat) (i : Nat) : offN sh i ≤ offN sh sh.length := by
  have : offN sh sh.length = offN sh i + ((sh.drop i).map (· + 32)).sum := by
    unfold offN
    rw [List.take_length, ← List.sum_append, ← List.map_append, List.take_append_drop]
  omega
def gB (bs : List (List UInt8)) (sh : List Nat) (i : Nat) : List (List UInt8) := (bs.drop (offN sh i)).take (sh.getD i 0 + 32)
def fileK (bs : List (List UInt8)) (sh : List Nat) (i : Nat) : List UInt8 := (List.range i).flatMap fun q => gPart (gB bs sh q) (sh.getD q 0)
def eraK (bs : List (List UInt8)) (sh : List Nat) (i : Nat) : List Nat := (List.range i).map fun q => (gon (gB bs sh q)).length
def nhK (bs : List (List UInt8)) (sh : List Nat) (i : Nat) : List Nat := (List.range i).map fun q => nHit (gB bs sh q) (sh.getD q 0 + 32)
def gAll (bs : List (List UInt8)) (sh : List Nat) (i : Nat) : Prop := ∀ q, q < i → ∀ j, j < 8 → fixOk (gB bs sh q) j
theorem fileK_up (bs : List (List UInt8)) (sh : List Nat) (i : Nat) : fileK bs sh (i + 1) = fileK bs sh i ++ gPart (gB bs sh i) (sh.getD i 0) := by
  unfold fileK
  rw [List.range_succ, List.flatMap_append]
  simp
theorem eraK_up (bs : List (List UInt8)) (sh : List Nat) (i : Nat) : eraK bs sh (i + 1) = eraK bs sh i ++ [(gon (gB bs sh i)).length] := by
  unfold eraK
  rw [List.range_succ, List.map_append]; rfl
theorem nhK_up (bs : List (List UInt8)) (sh : List Nat) (i : Nat) : nhK bs sh (i + 1) = nhK bs sh i ++ [nHit (gB bs sh i) (sh.getD i 0 + 32)] := by
  unfold nhK
  rw [List.range_succ, List.map_append]; rfl
theorem fileK_len (bs : List (List UInt8)) (sh : List Nat) : ∀ i, i ≤ sh.length → (fileK bs sh i).length = 8 * (sh.take i).sum
  | 0, _ => rfl
  | i + 1, h => by
    rw [fileK_up, List.length_append, fileK_len bs sh i (by omega), gPart_len, List.take_add_one, List.sum_append, List.getElem?_eq_getElem (by omega), List.getD_eq_getElem?_getD, List.getElem?_eq_getElem (by omega)]
    simp
    omega
theorem eraK_len (bs : List (List UInt8)) (sh : List Nat) (i : Nat) : (eraK bs sh i).length = i := by simp [eraK]
theorem nhK_len (bs : List (List UInt8)) (sh : List Nat) (i : Nat) : (nhK bs sh i).length = i := by simp [nhK]
theorem gAll_up {bs : List (List UInt8)} {sh : List Nat} {i : Nat} (h : gAll bs sh i) (h2 : ∀ j, j < 8 → fixOk (gB bs sh i) j) : gAll bs sh (i + 1) := fun q hq j hj => by
  rcases Nat.lt_or_ge q i with h3 | h3
  · exact h q h3 j hj
  · obtain rfl : q = i := by omega
    exact h2 j hj
/-- the groups of a size -/
def shZ (size : Int) : List Nat := (shapeOf (nblk size)).map Int.toNat
theorem shZ_map (size : Int) (h2 : size ≤ 2000) : (shZ size).map (fun k : Nat => (k : Int)) = shapeOf (nblk size) := by
  unfold shZ
  rw [List.map_map]
  have hn := nblk_le size h2
  unfold shapeOf
  split
  · simp
  · simp; omega
theorem shZ_at {size : Int} (h2 : size ≤ 2000) {i k : Nat} (h : (shZ size)[i]? = some k) : 1 ≤ k ∧ k ≤ 223 := by
  have hn := nblk_le size h2
  have h3 : k ∈ shZ size := List.mem_of_getElem? h
  unfold shZ shapeOf at h3
  split at h3
  · simp at h3; omega
  · simp at h3; omega
theorem shZ_len {size : Int} (h2 : size ≤ 2000) : 1 ≤ (shZ size).length ∧ (shZ size).length ≤ 2 := by
  unfold shZ shapeOf
  split <;> simp
theorem shZ_sum {size : Int} (h2 : size ≤ 2000) : (shZ size).sum = nblk size := by
  have hn := nblk_le size h2
  unfold shZ shapeOf
  split
  · simp
  · simp; omega
theorem shZ_tot {size : Int} (h2 : size ≤ 2000) : sumT (shapeOf (nblk size)) = (offN (shZ size) (shZ size).length : Int) := by
  have hn := nblk_le size h2
  unfold offN shZ shapeOf sumT
  split
  · simp
  · simp; omega
theorem shZ_off {size : Int} (h2 : size ≤ 2000) : offN (shZ size) (shZ size).length ≤ 314 := by
  have hn := nblk_le size h2
  unfold offN shZ shapeOf
  split
  · simp; omega
  · simp; omega
end Go.Proofs.YtmohiblgfmdkjaaDoor
