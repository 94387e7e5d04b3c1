import Derived.Test.YtmohiblgfmdkjaaGreatDoorGF
import Derived.Test.YtmohiblgfmdkjaaGreatDoorJO
import Derived.Test.YtmohiblgfmdkjaaGreatDoorGA
import Derived.Test.YtmohiblgfmdkjaaGreatDoorRows
import Derived.ProofKit
import Derived.OpenShut
namespace Go.Proofs.YtmohiblgfmdkjaaGreatDoor
open Go.RowKit Go.Bl
set_option linter.unusedVariables false
theorem Tryz.infoBool : (Tryz.prog.info? 4).map (fun i => (i.zero, i.size, i.bytes)) = some (some (.bool false), 1, 1) := by kernel_rfl
def boolC (bs : List Bool) : Array Value := (bs.map Value.bool).toArray
theorem boolC_len (bs : List Bool) : (boolC bs).size = bs.length := by simp [boolC]
theorem made_bools (n : Nat) : madeCells #[.bool false] n = boolC (inL n []) := by
  rw [inL_nil]
  unfold boolC
  apply Array.ext
  · simp [madeCells]
  · intro i h1 h2
    simp [madeCells, Nat.mod_one]
theorem boolC_set (bs : List Bool) (p : Nat) : (boolC bs).setIfInBounds p (.bool true) = boolC (bs.set p true) := by
  unfold boolC; rw [List.map_set]; simp
theorem bool_cell {w : World} {b n p : Nat} {t : TypeId} {ps : List Nat} (h : At w b (.cells (boolC (inL n ps)) t)) (hp : p < n) : w.cell? ⟨b, p, none⟩ = some (.bool (decide (p ∈ ps))) := by
  rw [cell_of h]
  unfold boolC
  simp [inL_get n ps p hp]
theorem bool_set {w : World} {b n p : Nat} {t : TypeId} {ps : List Nat} (h : At w b (.cells ((boolC (inL n ps)).setIfInBounds p (.bool true)) t)) (hp : p < n) : At w b (.cells (boolC (inL n (ps ++ [p]))) t) := by
  rwa [boolC_set, inL_set n ps p hp] at h
theorem own_ne_tyB {e te : TypeId} {base size n : Nat} {w : World} {v : Value} {xs : List Value} (h : w.ownsRow base e size v n xs) {b : Nat} {c : Array Value} {fz : Nat × Nat} (hb : At w b (.cells c te fz)) (hne : te ≠ e) : v.ownBlock ≠ some b := by
  intro hg
  rcases h.2 with ⟨rfl, -⟩ | ⟨g, cap, cur, rfl, hbg, hh, -⟩
  · simp [Value.ownBlock] at hg
  · simp [Value.ownBlock] at hg
    subst hg
    have := hh.symm.trans hb
    simp at this
    exact hne this.2.1.symm
theorem grown_fr {w w' : World} {r : Option Nat} (h : w.grownBy w' r) : Fr r.toList w w' := Fr.grown h (by intro k hk; simp [hk])
end Go.Proofs.YtmohiblgfmdkjaaGreatDoor
namespace Go.Proofs.YtmohiblgfmdkjaaGreatDoor
open Go.ChangeShapes Go.WideShapes Go.ChangeAt Go.RowKit Go.Bl
set_option linter.unusedVariables false
theorem row_of_cells {W : World} {a : Addr} {cs : List Value} (h : ∀ i, i < cs.length → W.cell? (a.add i) = cs[i]?) : Row (fun _ => False) W (some a) cs := by
  rcases Nat.eq_zero_or_pos cs.length with h0 | h0
  · exact .inl (List.length_eq_zero_iff.1 h0)
  · have hc := h 0 h0
    obtain ⟨b, off, sp⟩ := a
    have hb : ∃ c e fz, W.heap[b]? = some (.cells c e fz) ∧ sp = none := by
      have hne : (W.cell? ((⟨b, off, sp⟩ : Addr).add 0)) ≠ none := by rw [hc]; simp [h0]
      have hbl : ((⟨b, off, sp⟩ : Addr).add 0).block = b := by unfold Addr.add; split <;> rfl
      unfold World.cell? at hne
      rw [hbl] at hne
      cases hh : W.heap[b]? with
      | none => rw [hh] at hne; exact absurd rfl hne
      | some o =>
        rw [hh] at hne
        cases o with
        | cells c e fz =>
          refine ⟨c, e, fz, rfl, ?_⟩
          cases sp with
          | none => rfl
          | some s => exact absurd (by simp [Addr.add]) hne
        | _ => exact absurd rfl hne
    obtain ⟨c, e, fz, hh, rfl⟩ := hb
    refine .inr ⟨b, off, c, e, fz, rfl, fun h => h, hh, fun i hi => ?_⟩
    have := h i hi
    have he : (⟨b, off, none⟩ : Addr).add i = ⟨b, off + i, none⟩ := by unfold Addr.add; split <;> simp_all
    rw [he, cell_of hh] at this
    exact this
end Go.Proofs.YtmohiblgfmdkjaaGreatDoor
