/-
  Laws of the walk on whole rows: a struct or array stored into the block made last, or loaded from a block that is known.
-/
import Derived.Test.YtbohmnblegljkaaDoorG
import Derived.Deep.WholeRow
import Derived.BigQuiet
namespace Go.Bl
open Go.RowKit
set_option linter.unusedVariables false

/-- a whole array or struct into the block that was made last -/
theorem wpl_store_new {P : Program} {w : World} {ops : Array Oper} {rest : List Oper} {o : Oper} {a : Act} {Q : Exit → Act → World → Prop} {t : TypeId} {c : Array Value} (p x : Operand) (hgd : o.guard = none)
    (ho : o.op = .store t p x) (c' : Array Value) (hp : a.eval p = .pointer (some ⟨w.heap.size, 0, none⟩)) (hx : a.eval x = .agg c') (hi : (P.info? t).map (·.size) = some c'.size) (hsz : c.size = c'.size) (h1 : c'.all (·.oneCell') = true)
    (h : wpList P ops Q rest (a.put o.dst undef) (w.alloc (.cells c' t))) : wpList P ops Q (o :: rest) a (w.alloc (.cells c t)) := by
  refine wpList_plain hgd fun K hK => ?_
  unfold Oper.wp execOp
  simp only [ho, hp, hx, Sem.run_bind, Sem.run_pure, Result.andThen_ok, run_storeAt_new w t c c' hi hsz h1]
  exact hK _ _ h
/-- worlds that came of w0 by calls that turned nothing old -/
structure Kin (w0 : World) where
  w : World
  fr : Fr [] w0 w
instance (w0 : World) : Nonempty (Kin w0) := ⟨⟨w0, Fr.refl _ _⟩⟩
/-- A region that draws its order, whose operations only read and whose callees turn nothing old, walked once -/
theorem wp_region_calm {P : Program} {id : Nat} {Q : Exit → Act → World → Prop} {a : Act} {w : World} {l : List Oper} (w0 : World) (hm : P.follows .mixedOrders = true) (hB : Region.lexB .any l.toArray = true) (hf : Fr [] w0 w)
    (h : wpQuiet P l.toArray (fun w' => ∃ x : Kin w0, w' = x.w) (fun a' => ∀ w', (∃ x : Kin w0, w' = x.w) → Q .normal a' w') l a) : (Code.region id l.toArray true).wp P Q a w :=
  wp_region_quiet (C := fun w' => ∃ x : Kin w0, w' = x.w) hm hB ⟨⟨{ w with drawn := w.drawn + 1 }, hf.trans ⟨rfl, rfl, rfl, Nat.le_refl _, fun _ _ _ => rfl⟩⟩, rfl⟩ (by simpa using h)
/-- a callee's contract at such a world -/
theorem calm_of {P : Program} {f : FuncId} {args : Array Value} {w0 : World} {x : Kin w0} {v : Value} (h : Calls P f args x.w fun e w' => e = .returned v ∧ Fr [] x.w w') :
    Calls P f args x.w fun e w'' => e = .returned v ∧ ∃ y : Kin w0, w'' = y.w :=
  h.mono fun e w' ⟨he, hf⟩ => ⟨he, ⟨w', x.fr.trans hf⟩, rfl⟩
theorem Kin.cell {w0 : World} {b : Nat} {o : Obj} (h : w0.heap[b]? = some o) (x : Kin w0) : x.w.heap[b]? = some o := x.fr.keep h (by simp)

/-- an operation that reads no memory, by its own run -/
theorem wpl_val {P : Program} {w : World} {ops : Array Oper} {rest : List Oper} {o : Oper} {a : Act} {Q : Exit → Act → World → Prop} (p : Op) (ho : o.op = p) (hgd : o.guard = none) (v : Value)
    (hr : (execOp a.eval o).run P w = .ok (.value v) w) (h : wpList P ops Q rest (a.put o.dst v) w) : wpList P ops Q (o :: rest) a w := by
  refine wpList_plain hgd fun K hK => ?_
  unfold Oper.wp
  rw [hr]
  exact hK _ _ h
end Go.Bl
