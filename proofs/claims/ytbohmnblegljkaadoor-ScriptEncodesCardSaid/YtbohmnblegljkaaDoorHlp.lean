/-
  Helpers of drawn regions: a region taken out of a body; loads of rows.
-/
import Derived.Test.YtbohmnblegljkaaDoorOf
import Derived.Test.YtbohmnblegljkaaDoorGB
namespace Go.Proofs.YtbohmnblegljkaaDoor
open Go.RowKit Go.Bl
set_option linter.unusedVariables false

def findRegion (k : Nat) : Code → Option Code
  | .region i ops d => if i = k then some (.region i ops d) else none
  | .loop c => findRegion k c
  | .seq a b => match findRegion k a with
    | some c => some c
    | none => findRegion k b
  | .block _ c => findRegion k c
  | .scope c => findRegion k c
  | .cond _ a b => match findRegion k a with
    | some c => some c
    | none => findRegion k b
  | _ => none
theorem up_pair' {P : Program} {ops : Array Oper} {Q : Exit → Go.Act → World → Prop} {a : Go.Act} {w : World} (k k' : Nat) (hk : k' = k + 1) (hst : pairAt ops (mkTbl ops) k = true)
    (h1 : opV P ops k a w fun _ p => opV P ops k' a p fun _ p' => Up P ops Q (k + 2) a p') (h2 : opV P ops k' a w fun _ p => opV P ops k a p fun _ p' => Up P ops Q (k + 2) a p') : Up P ops Q k a w := by
  subst hk
  exact up_pair (mkTbl ops) k hst h1 h2
theorem lt_of_cell {w : World} {b i : Nat} {v : Value} (h : w.cell? ⟨b, i, none⟩ = some v) : b < w.heap.size := by
  unfold World.cell? at h
  rcases Nat.lt_or_ge b w.heap.size with hb | hb
  · exact hb
  · rw [Array.getElem?_eq_none hb] at h; simp at h
theorem quiet_of_run {P : Program} {o : Oper} {a : Go.Act} {C : World → Prop} {K : Go.Act → Prop} (v : Value) (hr : ∀ w, C w → (execOp a.eval o).run P w = .ok (.value v) w) (hk : K (a.put o.dst v)) : o.quiet P a C K :=
  ⟨v, fun w hw => by
    unfold Oper.quietAt
    rw [hr w hw]
    first | exact ⟨rfl, rfl⟩ | exact ⟨rfl, hw⟩ | trivial, hk⟩
theorem run_load_row {P : Program} {ρ : Operand → Value} {o : Oper} {ty : TypeId} {d : TypeDesc} (x : Operand) (ho : o.op = .load ty x) (b off : Nat) (c : Array Value) (w : World) (hx : ρ x = .pointer (some ⟨b, off, none⟩)) (hc : w.rangeAt b off c.toList) (hu : P.underlying ty = some d) (hd : d.isRow = true) (hi : (P.info? ty).map (·.size) = some c.size) :
    (execOp ρ o).run P w = .ok (.value (.agg c)) w := by
  have := run_loadAt_mid (P := P) w b off ty c.toList d hc hu hd (by simpa using hi)
  unfold execOp
  simp only [ho, hx, Sem.run_bind, this, Result.andThen_ok, Sem.run_pure]
theorem range_keep {w w' : World} {b o : Nat} {cs : List Value} (h : w.rangeAt b o cs) (hf : Fr [] w w') : w'.rangeAt b o cs := fun j v hj => cell_mono hf (h j v hj)
end Go.Proofs.YtbohmnblegljkaaDoor
