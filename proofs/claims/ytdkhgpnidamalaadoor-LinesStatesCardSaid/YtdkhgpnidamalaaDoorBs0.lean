/-
  Bytes in blocks of bytes: they stand when a row of rows grows.
-/
import Derived.Test.YtdkhgpnidamalaaDoorGA
namespace Go.Proofs.YtdkhgpnidamalaaDoor
open Go.RowKit Go.Bl
set_option linter.unusedVariables false

theorem own_neT {e te : TypeId} {base size n : Nat} {w : World} {v : Value} {xs : List Value} (h : w.ownsRow base e size v n xs) {b : Nat} {c : Array Value} {fz : Nat × Nat} (hb : w.heap[b]? = some (.cells c te fz)) (hne : te ≠ e) : v.ownBlock ≠ some b := by
  intro hg
  rcases h.2 with ⟨rfl, -⟩ | ⟨g, cap, cur, rfl, hbg, hh, -⟩
  · simp [Value.ownBlock] at hg
  · simp [Value.ownBlock] at hg
    subst hg
    have := hh.symm.trans hb
    simp at this
    exact hne this.2.1.symm
/-- bytes that lie in a block of bytes -/
def BsT (w : World) (v : Value) (xs : List UInt8) : Prop :=
  ∃ b off cap c, v = .slice (some ⟨b, off, none⟩) xs.length cap ∧ xs.length ≤ cap ∧ cap ≤ maxLen ∧ At w b (.cells c 5) ∧ ∀ i, i < (xs.map u8v).length → c[off + i]? = (xs.map u8v)[i]?
theorem BsT.bs {A : Nat → Prop} {w : World} {v : Value} {xs : List UInt8} (h : BsT w v xs) (hA : ∀ b, ¬ A b) : Bs A w v xs := by
  obtain ⟨b, off, cap, c, rfl, h1, h2, h3, h4⟩ := h
  exact ⟨_, cap, rfl, h1, h2, .inr ⟨b, off, c, 5, (0, 0), rfl, hA b, h3, h4⟩⟩
theorem BsT.keep0 {w w' : World} {v : Value} {xs : List UInt8} (h : BsT w v xs) (hf : Fr [] w w') : BsT w' v xs := by
  obtain ⟨b, off, cap, c, rfl, h1, h2, h3, h4⟩ := h
  exact ⟨b, off, cap, c, rfl, h1, h2, h3.keep0 hf, h4⟩
theorem BsT.grown {w w' : World} {v o : Value} {xs : List UInt8} {base : Nat} {us : List Value} (h : BsT w v xs) (ho : OwnV 61 base w o us) (hg : w.grownBy w' o.ownBlock) : BsT w' v xs := by
  obtain ⟨b, off, cap, c, rfl, h1, h2, h3, h4⟩ := h
  exact ⟨b, off, cap, c, rfl, h1, h2, h3.grown hg (own_neT ho h3 (by decide)), h4⟩
theorem BsT.shape {w : World} {v : Value} {xs : List UInt8} (h : BsT w v xs) : ∃ b off cap, v = .slice (some ⟨b, off, none⟩) xs.length cap := by
  obtain ⟨b, off, cap, c, rfl, -⟩ := h
  exact ⟨b, off, cap, rfl⟩
end Go.Proofs.YtdkhgpnidamalaaDoor
