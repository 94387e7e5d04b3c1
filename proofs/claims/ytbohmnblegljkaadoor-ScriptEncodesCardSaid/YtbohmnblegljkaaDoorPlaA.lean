/-
  Layer 31: an act's plain form.
-/
import Derived.Test.YtbohmnblegljkaaDoorPla0
import Derived.Test.YtbohmnblegljkaaDoorPla1
import Derived.Test.YtbohmnblegljkaaDoorPla2
import Derived.Test.YtbohmnblegljkaaDoorPla3
import Derived.Test.YtbohmnblegljkaaDoorPla4
namespace Go.Proofs.YtbohmnblegljkaaDoor
open Go.RowKit Go.Bl
set_option linter.unusedVariables false

theorem Plain_any (A : Nat → Prop) (w : World) (a : ActP) (v : Value) (hb : Bs A w v a.bytes) (hlen : a.bytes.length ≤ 4000000) :
    Calls Tryd.prog 33 #[.agg (actC a v)] w fun e w' => ∃ bv, e = .returned (.agg (actC (plainA a) bv)) ∧ OwnB 5 w.heap.size w' bv (plainA a).bytes ∧ Fr [] w w' := by
  obtain ⟨bo, bn, bc, rfl⟩ := bs_shape hb
  by_cases h10 : a.kind = 10
  · exact Plain_10 A w a bo bn bc hb hlen h10
  by_cases h1 : a.kind = 1
  · exact Plain_1 A w a bo bn bc hb hlen h1
  by_cases h9 : a.kind = 9
  · exact Plain_9 A w a bo bn bc hb hlen h9
  by_cases h13 : a.kind = 13
  · exact Plain_13 A w a bo bn bc hb hlen h13
  · exact Plain_o A w a bo bn bc hb hlen h10 h1 h9 h13
end Go.Proofs.YtbohmnblegljkaaDoor
