/-
  Layer 2: a polynomial's degree: slices.Backward and the loop over it.
  Layer 2: poly.Degree and poly.Trim.
-/
import Derived.Test.YtdkhgpnidamalaaDoorGD
import Derived.RangeFuncBox
import Derived.RangeFuncLeaves
import Derived.Shelf.Abstract
import Derived.WalkKit
import Derived.OwnWalkIn
import Derived.TacticsInMore
import Derived.LoopNIn
import Derived.LoopIn
import Derived.Test.YtdkhgpnidamalaaDoorClo
namespace Go.Proofs.YtdkhgpnidamalaaDoor
open Go.RowKit Go.Bl Go.Shelf
set_option linter.unusedVariables false
attribute [local go_sem] Oper.semAt_some

def bupto {α : Type} (f : Nat → α) (k : Nat) : List α := (List.range k).map f
theorem bupto_succ {α : Type} (f : Nat → α) (k : Nat) : bupto f (k + 1) = bupto f k ++ [f k] := by simp [bupto, List.range_succ]
theorem bupto_length {α : Type} (f : Nat → α) (k : Nat) : (bupto f k).length = k := by simp [bupto]

/-- what comes in round j, from the end on -/
def bwF (zs : List UInt8) (j : Nat) : Nat × Nat := (zs.length - 1 - j, (zs.getD (zs.length - 1 - j) 0).toNat)

/-- the slice value sv holds the bytes zs in a block below n₀, or it is nil -/
def BwI (n₀ : Nat) (W : World) (sv : Value) (zs : List UInt8) : Prop :=
  (sv = .slice none 0 0 ∧ zs = []) ∨ ∃ b off cap, sv = .slice (some ⟨b, off, none⟩) zs.length cap ∧ b < n₀ ∧ ∀ j, j < zs.length → W.cell? ⟨b, off + j, none⟩ = some (.int .u8 ((zs.getD j 0).toNat : Int))
theorem BwI.below {n₀ : Nat} {A B : World} (h : Below n₀ A B) {sv : Value} {zs : List UInt8} : BwI n₀ A sv zs → BwI n₀ B sv zs
  | .inl e => .inl e
  | .inr ⟨b, off, cap, e, hb, hc⟩ => .inr ⟨b, off, cap, e, hb, fun j hj => (h.cell (p := ⟨b, off + j, none⟩) hb).trans (hc j hj)⟩
end Go.Proofs.YtdkhgpnidamalaaDoor
namespace Go.Proofs.YtdkhgpnidamalaaDoor
open Go.RowKit Go.Bl Go.Shelf
set_option linter.unusedVariables false
attribute [local go_sem] Oper.semAt_some

theorem bw_at (zs : List UInt8) (j : Nat) (hj : j < zs.length) : zs[j]? = some (zs.getD j 0) := by
  rw [List.getD_eq_getElem?_getD, List.getElem?_eq_getElem hj]; rfl
theorem bw_none (zs : List UInt8) (h : ∀ p ∈ bupto (bwF zs) zs.length, p.2 = 0) : plen zs = 0 := by
  refine plen_of zs 0 (fun i _ hi => ?_) (.inl rfl)
  have := h (bwF zs (zs.length - 1 - i)) (by simp only [bupto, List.mem_map, List.mem_range]; exact ⟨_, by omega, rfl⟩)
  simp only [bwF, show zs.length - 1 - (zs.length - 1 - i) = i by omega] at this
  rw [bw_at zs i hi, UInt8.toNat_inj.1 (show (zs.getD i 0).toNat = (0 : UInt8).toNat from this)]
theorem bw_some (zs : List UInt8) (k : Nat) (hk : k < zs.length) (h : ∀ p ∈ bupto (bwF zs) k, p.2 = 0) (hne : (bwF zs k).2 ≠ 0) : plen zs = (bwF zs k).1 + 1 := by
  have h1 : (bwF zs k).1 = zs.length - 1 - k := rfl
  rw [h1]
  refine plen_of zs _ (fun i hi hl => ?_) (.inr ⟨_, by rw [Nat.add_sub_cancel]; exact bw_at zs _ (by omega), fun e => hne ?_⟩)
  · have := h (bwF zs (zs.length - 1 - i)) (by simp only [bupto, List.mem_map, List.mem_range]; exact ⟨_, by omega, rfl⟩)
    simp only [bwF, show zs.length - 1 - (zs.length - 1 - i) = i by omega] at this
    rw [bw_at zs i hl, UInt8.toNat_inj.1 (show (zs.getD i 0).toNat = (0 : UInt8).toNat from this)]
  · show (zs.getD (zs.length - 1 - k) 0).toNat = 0
    rw [e]; rfl

theorem bwI_of (A : Nat → Prop) (w : World) (v : Value) (zs : List UInt8) (h : Bs A w v zs) : ∃ a cap, v = .slice a zs.length cap ∧ (zs ≠ [] → BwI w.heap.size w v zs) := by
  obtain ⟨a, cap, rfl, h2, h3, h4⟩ := h
  refine ⟨a, cap, rfl, fun hne => ?_⟩
  have h0 : 0 < (zs.map u8v).length := by simpa using List.length_pos_iff.2 hne
  obtain ⟨b, off, rfl, -, hc⟩ := h4.some_of h0
  refine .inr ⟨b, off, cap, rfl, ?_, fun j hj => ?_⟩
  · have := hc 0 h0
    rcases Nat.lt_or_ge b w.heap.size with hb | hb
    · exact hb
    · rw [List.getElem?_eq_getElem h0] at this
      unfold World.cell? at this
      rw [Array.getElem?_eq_none hb] at this
      simp at this
  · rw [hc j (by simpa using hj)]
    simp [List.getD_eq_getElem?_getD, hj, u8v]
end Go.Proofs.YtdkhgpnidamalaaDoor
