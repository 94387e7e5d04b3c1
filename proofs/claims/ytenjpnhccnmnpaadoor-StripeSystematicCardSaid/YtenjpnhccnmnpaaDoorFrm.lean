/-
  An activation of known size is a written frame; behind a region that wrote some slots.
-/
import Derived.Test.YtenjpnhccnmnpaaDoorAp
import Derived.Test.YtenjpnhccnmnpaaDoorCh
namespace Go.Bl
open Go.RowKit
set_option linter.unusedVariables false

theorem frameX (a : Act) (n : Nat) (hs : a.tmps.size = n) (hd : a.defers = []) : a = ⟨((List.range n).map (slot a)).toArray, []⟩ := by
  obtain ⟨t, d⟩ := a
  simp only at hs hd
  subst hd
  simp only [Act.mk.injEq, and_true]
  refine Array.ext (by simp [hs]) fun i h1 h2 => ?_
  simp [slot, h1]
theorem putsX (b a : Act) (L : List Nat) (hd : b.defers = a.defers) (hs : b.tmps.size = a.tmps.size) (h : ∀ s, s ∉ L → slot b s = slot a s) : ∃ f : Nat → Value, b = L.foldl (fun x d => x.put (some d) (f d)) a := ⟨slot b, old_puts b a L hd hs h⟩
end Go.Bl
