/-
  A whole record loaded in a drawn region.
-/
import Derived.Test.YtdkhgpnidamalaaDoorGB
import Derived.Test.YtdkhgpnidamalaaDoorOwb
import Derived.Test.YtdkhgpnidamalaaDoorGD
import Derived.Test.YtdkhgpnidamalaaDoorRec
import Derived.Test.YtdkhgpnidamalaaDoorRows
namespace Go.Proofs.YtdkhgpnidamalaaDoor
open Go.RowKit Go.Bl
set_option linter.unusedVariables false
theorem range_keep {w p : World} {b o : Nat} {cs : List Value} (h : w.rangeAt b o cs) (hf : Fr [] w p) : p.rangeAt b o cs := fun j v hv => cell_keep hf (by simp) (h j v hv)
theorem run_ldk {P : Program} {ρ : Operand → Value} {o : Oper} {w : World} {ty : TypeId} {d : TypeDesc} {x : Operand} {b off : Nat} {c : List Value} (ho : o.op = .load ty x) (hx : ρ x = .pointer (some ⟨b, off, none⟩)) (hc : w.rangeAt b off c) (hu : P.underlying ty = some d) (hd : d.isRow = true) (hi : (P.info? ty).map (·.size) = some c.length) :
    (execOp ρ o).run P w = .ok (.value (.agg c.toArray)) w := by
  have := run_loadAt_mid (P := P) w b off ty c d hc hu hd hi
  unfold execOp
  simp only [ho, hx, Sem.run_bind, this, Result.andThen_ok, Sem.run_pure]
end Go.Proofs.YtdkhgpnidamalaaDoor
