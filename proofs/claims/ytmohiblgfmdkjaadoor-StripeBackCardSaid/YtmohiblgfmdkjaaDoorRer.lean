/-
  Layer 4: the document's Erasures.
-/
import Derived.Test.YtmohiblgfmdkjaaDoorGK
import Derived.Test.YtmohiblgfmdkjaaDoorPwr
import Derived.Test.YtmohiblgfmdkjaaDoorJN
namespace Go.Proofs.YtmohiblgfmdkjaaDoor
open Go.RowKit Go.Bl
set_option linter.unusedVariables false
def eraBad (n : Int) (l : List Int) : Nat := if 33 ≤ n ∧ n ≤ 255 then (if ∀ p ∈ l, 0 ≤ p ∧ p < n then (if l.Nodup then (if l.length ≤ 32 then 0 else 16) else 10) else 1) else 8
def eraV (n : Int) (l : List Int) : List UInt8 := l.map fun p => plX n.toNat p.toNat
theorem era_8 {n : Int} {l : List Int} (h : ¬ (33 ≤ n ∧ n ≤ 255)) : eraBad n l = 8 := by unfold eraBad; rw [if_neg h]
theorem era_1 {n : Int} {l : List Int} {i : Nat} {p : Int} (h : 33 ≤ n ∧ n ≤ 255) (hi : l[i]? = some p) (hp : ¬ (0 ≤ p ∧ p < n)) : eraBad n l = 1 := by
  unfold eraBad
  rw [if_pos h, if_neg (fun h => hp (h p (List.mem_of_getElem? hi)))]
theorem era_ok {n : Int} {l : List Int} (h : ∀ j, j < l.length → ∀ p, l[j]? = some p → 0 ≤ p ∧ p < n) : ∀ p ∈ l, 0 ≤ p ∧ p < n := fun p hp => by
  obtain ⟨j, hj, e⟩ := List.mem_iff_getElem.1 hp
  exact h j hj p (by rw [List.getElem?_eq_getElem hj, e])
theorem era_10 {n : Int} {l : List Int} (h : 33 ≤ n ∧ n ≤ 255) (hok : ∀ p ∈ l, 0 ≤ p ∧ p < n) (hd : ¬ l.Nodup) : eraBad n l = 10 := by unfold eraBad; rw [if_pos h, if_pos hok, if_neg hd]
theorem era_16 {n : Int} {l : List Int} (h : 33 ≤ n ∧ n ≤ 255) (hok : ∀ p ∈ l, 0 ≤ p ∧ p < n) (hd : l.Nodup) (hl : ¬ l.length ≤ 32) : eraBad n l = 16 := by unfold eraBad; rw [if_pos h, if_pos hok, if_pos hd, if_neg hl]
theorem era_0 {n : Int} {l : List Int} (h : 33 ≤ n ∧ n ≤ 255) (hok : ∀ p ∈ l, 0 ≤ p ∧ p < n) (hd : l.Nodup) (hl : l.length ≤ 32) : eraBad n l = 0 := by unfold eraBad; rw [if_pos h, if_pos hok, if_pos hd, if_pos hl]
theorem nodup_two {l : List Int} {i j : Nat} {p : Int} (hij : j < i) (hi : l[i]? = some p) (hj : l[j]? = some p) : ¬ l.Nodup := fun hd => by
  obtain ⟨h1, e1⟩ := List.getElem?_eq_some_iff.1 hi
  obtain ⟨h2, e2⟩ := List.getElem?_eq_some_iff.1 hj
  exact (List.pairwise_iff_getElem.1 hd j i h2 h1 hij) (by rw [e1, e2])
theorem nodup_up {l : List Int} {i : Nat} {p : Int} (hd : (l.take i).Nodup) (hi : l[i]? = some p) (hn : ∀ j, j < i → l[j]? ≠ some p) : (l.take (i + 1)).Nodup := by
  rw [List.take_add_one, hi]
  refine List.nodup_append.2 ⟨hd, by simp, ?_⟩
  intro x hx y hy
  simp at hy
  subst hy
  intro e
  subst e
  obtain ⟨j, hj, e⟩ := List.mem_iff_getElem.1 hx
  rw [List.length_take] at hj
  refine hn j (by omega) ?_
  rw [← e, List.getElem_take]
  exact List.getElem?_eq_getElem (by omega)
theorem eraV_take (n : Int) (l : List Int) (i : Nat) (p : Int) (h : l[i]? = some p) : eraV n (l.take (i + 1)) = eraV n (l.take i) ++ [plX n.toNat p.toNat] := by
  unfold eraV
  rw [List.take_add_one, h]
  simp
theorem is_cell {A : Nat → Prop} {w : World} {a : Option Addr} {n cap : Nat} {l : List Int} (h : Is A w (.slice a n cap) l) (j : Nat) (x : Int) (hx : l[j]? = some x) :
    ∃ b off, a = some ⟨b, off, none⟩ ∧ w.cell? ⟨b, off + j, none⟩ = some (.int .i64 x) := by
  obtain ⟨a', cap', e, -, -, hh⟩ := h.shape
  cases e
  obtain ⟨hj, e⟩ := List.getElem?_eq_some_iff.1 hx
  obtain ⟨b, off, rfl, -, hc⟩ := hh (by omega)
  exact ⟨b, off, rfl, by rw [hc j hj, List.getD_eq_getElem?_getD, hx]; rfl⟩
end Go.Proofs.YtmohiblgfmdkjaaDoor
