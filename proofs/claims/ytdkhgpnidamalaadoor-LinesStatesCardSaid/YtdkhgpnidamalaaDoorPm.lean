/-
  Layer 2: poly.Mul's drawn region. (printed by genpm.py)
-/
import Derived.Test.YtdkhgpnidamalaaDoorGD
namespace Go.Proofs.YtdkhgpnidamalaaDoor
open Go.RowKit Go.Bl
set_option linter.unusedVariables false

theorem byte_cell {w : World} {g i : Nat} {t : TypeId} {xs : List UInt8} (h : At w g (.cells (xs.map u8v).toArray t)) (hi : i < xs.length) : w.cell? ⟨g, i, none⟩ = some (.int .u8 ((xs.getD i 0).toNat : Int)) := by
  rw [cell_of h]
  simp [List.getD_eq_getElem?_getD, hi, u8v]
theorem updX_cells (out : List UInt8) (i : Nat) (x : UInt8) : ((updX out i x).map u8v).toArray = ((out.map u8v).toArray).setIfInBounds i (.int .u8 ((out.getD i 0 ^^^ x).toNat : Int)) := by
  unfold updX
  rw [List.map_set]
  simp [u8v]

end Go.Proofs.YtdkhgpnidamalaaDoor
