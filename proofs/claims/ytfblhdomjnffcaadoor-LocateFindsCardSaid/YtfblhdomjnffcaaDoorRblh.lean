/-
  A row of bytes of one's own stands in a block of bytes.
-/
import Derived.Test.YtfblhdomjnffcaaDoorGJ
namespace Go.Proofs.YtfblhdomjnffcaaDoor
open Go.RowKit Go.Bl
set_option linter.unusedVariables false

theorem bst_own {w : World} {base : Nat} {v : Value} {xs : List UInt8} (h : OwnB 5 base w v xs) (hx : 0 < xs.length) : BsT w v xs := by
  obtain ⟨h1, h2⟩ := h
  rcases h2 with ⟨-, h2⟩ | ⟨g, cap, cur, rfl, hg, hh, hn, hm, hs, ht⟩
  · exfalso; rw [List.length_eq_zero_iff.1 h2] at hx; simp at hx
  · refine ⟨g, 0, cap, cur, rfl, hn, hm, hh, fun i hi => ?_⟩
    rw [List.length_map] at hi
    have e : (cur.toList.take (xs.length * 1))[i]? = (xs.map u8v)[i]? := by rw [ht]
    rw [List.getElem?_take, if_pos (by omega), Array.getElem?_toList] at e
    rw [Nat.zero_add, e]

end Go.Proofs.YtfblhdomjnffcaaDoor
