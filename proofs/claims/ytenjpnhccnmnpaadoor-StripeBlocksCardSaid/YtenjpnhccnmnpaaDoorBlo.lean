/-
  Layer 6: stripe.Blocks: helpers.
-/
import Derived.Test.YtenjpnhccnmnpaaDoorBt
import Derived.Test.YtenjpnhccnmnpaaDoorShp
namespace Go.Proofs.YtenjpnhccnmnpaaDoor
open Go.RowKit Go.Bl
set_option linter.unusedVariables false

theorem shapeOf_shN (n : Nat) : shapeOf n = (shN n).map (fun k : Nat => (k : Int)) := by
  unfold shapeOf shN
  split
  · rfl
  · simp; omega
theorem nblk_nB (n : Nat) : nblk (n : Int) = nB n := by unfold nblk nB; simp
def zipB (bs : List Nat) (rows : List (List UInt8)) : List (Value × List UInt8) := List.zipWith (fun b r => (sl8 b, r)) bs rows
theorem zipB_fst : ∀ (bs : List Nat) (rows : List (List UInt8)), bs.length = rows.length → (zipB bs rows).map (·.1) = bs.map sl8
  | [], [], _ => rfl
  | b :: bs, r :: rows, h => by
    have := zipB_fst bs rows (by simpa using h)
    simp only [zipB, List.zipWith_cons_cons, List.map_cons] at this ⊢
    rw [this]
theorem zipB_snd : ∀ (bs : List Nat) (rows : List (List UInt8)), bs.length = rows.length → (zipB bs rows).map (·.2) = rows
  | [], [], _ => rfl
  | b :: bs, r :: rows, h => by
    have := zipB_snd bs rows (by simpa using h)
    simp only [zipB, List.zipWith_cons_cons, List.map_cons] at this ⊢
    rw [this]
theorem zipB_bst {base : Nat} {w : World} {bs : List Nat} {rows : List (List UInt8)} (h : Rws base w bs rows) (h8 : ∀ r ∈ rows, r.length = 8) : ∀ x ∈ zipB bs rows, BsT w x.1 x.2 := by
  intro x hx
  obtain ⟨i, hi, rfl⟩ := List.getElem_of_mem hx
  have hl := h.len
  simp only [zipB, List.length_zipWith] at hi
  simp only [zipB, List.getElem_zipWith]
  exact rws_bst h h8 i _ _ (List.getElem?_eq_getElem (by omega)) (List.getElem?_eq_getElem (by omega))
theorem parB_eight (data : List (List UInt8)) : ∀ r ∈ parB data, r.length = 8 := by
  intro r hr
  obtain ⟨i, -, rfl⟩ := List.mem_map.1 hr
  simp
/-- a cut of a list of rows -/
theorem vs_take {A : Nat → Prop} {w : World} {a : Option Addr} {n cap : Nat} {us : List Value} (h : Vs A w (.slice a n cap) us) (k : Nat) (hk : k ≤ n) : Vs A w (.slice a k cap) (us.take k) := by
  obtain ⟨a', cap', h1, h2, h3, h4⟩ := h
  cases h1
  exact ⟨a, cap, by rw [List.length_take, Nat.min_eq_left hk], by rw [List.length_take]; omega, h3, h4.take k⟩
theorem vs_cut {A : Nat → Prop} {w : World} {a : Option Addr} {n cap : Nat} {us : List Value} (h : Vs A w (.slice a n cap) us) (k : Nat) (hk : k ≤ n) : Vs A w (.slice (if cap = k then a else a.map (·.add k)) (n - k) (cap - k)) (us.drop k) := by
  obtain ⟨a', cap', h1, h2, h3, h4⟩ := h
  cases h1
  refine ⟨_, cap - k, by rw [List.length_drop], by rw [List.length_drop]; omega, by omega, ?_⟩
  have := h4.cut k cap 1 (fun e => by subst e; simp; omega)
  simpa using this
/-- what stripe.Blocks has made behind i groups -/
theorem blk_step (data : List (List UInt8)) (sh : List Nat) (i k : Nat) (h : sh[i]? = some k) (hs : sh.sum ≤ data.length) :
    blkGo data (sh.take (i + 1)) = blkGo data (sh.take i) ++ grpB ((data.drop (sh.take i).sum).take k) := by
  induction sh generalizing data i with
  | nil => simp at h
  | cons x sh ih =>
    cases i with
    | zero => simp at h; subst h; simp [blkGo]
    | succ i =>
      simp only [List.sum_cons] at hs
      simp only [List.take_succ_cons, blkGo, List.sum_cons, List.append_assoc]
      rw [ih (data.drop x) i (by simpa using h) (by rw [List.length_drop]; omega), List.drop_drop]
end Go.Proofs.YtenjpnhccnmnpaaDoor
