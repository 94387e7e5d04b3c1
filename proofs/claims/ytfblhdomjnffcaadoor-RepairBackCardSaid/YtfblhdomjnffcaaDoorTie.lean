/-
  DERIVED. GIVEN WITH THE SEED: THE PROGRAM's TIES (one call each: nine closed facts by the kernel) AND EACH ROW's TIE, after the 31st guide's Derived/Test/Toyas{Tie, Card}.lean. No idea stands in it: it is a product of the set-up. Laid BY PROGRAM, IN A SANDBOX (cutbox-door.mjs). By AI agents, Wed Nov 11 2026. No macro, syntax, notation, axiom, sorry.
-/
import Derived.Test.YtfblhdomjnffcaaDoorRows
import Derived.LaidByTextLater
import Derived.SevenTiedAt
import Derived.LaidSub
import Derived.LaidOnce
namespace Go.Proofs.YtfblhdomjnffcaaDoor
open Go
set_option maxRecDepth 100000
theorem seatTie1 : Tryd.prog.laidByTextLater [("bailee/api.ErrRange", Rows.laid_bailee_api_ErrRange), ("bailee/api.ErrShort", Rows.laid_bailee_api_ErrShort), ("bailee/api.ErrLong", Rows.laid_bailee_api_ErrLong), ("bailee/api.ErrForm", Rows.laid_bailee_api_ErrForm), ("bailee/api.ErrSum", Rows.laid_bailee_api_ErrSum), ("bailee/api.ErrName", Rows.laid_bailee_api_ErrName), ("bailee/api.ErrKind", Rows.laid_bailee_api_ErrKind), ("bailee/api.ErrSize", Rows.laid_bailee_api_ErrSize), ("bailee/api.ErrKey", Rows.laid_bailee_api_ErrKey), ("bailee/api.ErrDup", Rows.laid_bailee_api_ErrDup), ("bailee/api.ErrNone", Rows.laid_bailee_api_ErrNone), ("bailee/api.ErrFull", Rows.laid_bailee_api_ErrFull), ("bailee/api.ErrState", Rows.laid_bailee_api_ErrState), ("bailee/api.ErrPower", Rows.laid_bailee_api_ErrPower), ("bailee/api.ErrProof", Rows.laid_bailee_api_ErrProof), ("bailee/api.ErrSpare", Rows.laid_bailee_api_ErrSpare), ("bailee/api.ErrLost", Rows.laid_bailee_api_ErrLost), ("bailee/api.ErrBudget", Rows.laid_bailee_api_ErrBudget), ("bailee/api.ErrLate", Rows.laid_bailee_api_ErrLate), ("bailee/api.ErrZero", Rows.laid_bailee_api_ErrZero)] [.sentinel, .sentinel, .sentinel, .sentinel, .sentinel, .sentinel, .sentinel, .sentinel, .sentinel, .sentinel, .sentinel, .sentinel, .sentinel, .sentinel, .sentinel, .sentinel, .sentinel, .sentinel, .sentinel, .sentinel] true :=
  Program.laidByTextLater_by_one 389 8 2 (by kernel_rfl) (by kernel_rfl) (by kernel_rfl) (by kernel_rfl) (by kernel_rfl) (by kernel_rfl) (fun _ _ => by kernel_rfl)
theorem noOwnUnsafe : Tryd.pinned.checked.prog.headLifts.contains "ownunsafe" = false := by kernel_rfl
theorem tie : Tryd.prog.laidByTextLater [("bailee/api.ErrRange", Rows.laid_bailee_api_ErrRange), ("bailee/api.ErrSize", Rows.laid_bailee_api_ErrSize), ("bailee/api.ErrDup", Rows.laid_bailee_api_ErrDup), ("bailee/api.ErrSpare", Rows.laid_bailee_api_ErrSpare), ("bailee/api.ErrLost", Rows.laid_bailee_api_ErrLost)] [.sentinel, .sentinel, .sentinel, .sentinel, .sentinel] true :=
  Program.laidByTextLater.sub seatTie1 ["bailee/api.ErrRange", "bailee/api.ErrSize", "bailee/api.ErrDup", "bailee/api.ErrSpare", "bailee/api.ErrLost"] (by kernel_rfl) (by kernel_rfl)
theorem locateRegisters_row_tie : Rows.locateRegistersRow.laidByTextAt .later Tryd.pinned [.sentinel, .sentinel, .sentinel, .sentinel, .sentinel] true :=
  OpenClaim.laidByTextAt_later rfl rfl tie noOwnUnsafe
theorem locatePlaces_row_tie : Rows.locatePlacesRow.laidByTextAt .later Tryd.pinned [.sentinel, .sentinel, .sentinel, .sentinel, .sentinel] true :=
  OpenClaim.laidByTextAt_later rfl rfl tie noOwnUnsafe
theorem locateEquation_row_tie : Rows.locateEquationRow.laidByTextAt .later Tryd.pinned [.sentinel, .sentinel, .sentinel, .sentinel, .sentinel] true :=
  OpenClaim.laidByTextAt_later rfl rfl tie noOwnUnsafe
theorem tie2 : Tryd.prog.laidByTextLater [("bailee/api.ErrRange", Rows.laid_bailee_api_ErrRange), ("bailee/api.ErrShort", Rows.laid_bailee_api_ErrShort), ("bailee/api.ErrLong", Rows.laid_bailee_api_ErrLong), ("bailee/api.ErrForm", Rows.laid_bailee_api_ErrForm), ("bailee/api.ErrSum", Rows.laid_bailee_api_ErrSum), ("bailee/api.ErrName", Rows.laid_bailee_api_ErrName), ("bailee/api.ErrKind", Rows.laid_bailee_api_ErrKind), ("bailee/api.ErrSize", Rows.laid_bailee_api_ErrSize), ("bailee/api.ErrKey", Rows.laid_bailee_api_ErrKey), ("bailee/api.ErrDup", Rows.laid_bailee_api_ErrDup), ("bailee/api.ErrNone", Rows.laid_bailee_api_ErrNone), ("bailee/api.ErrFull", Rows.laid_bailee_api_ErrFull), ("bailee/api.ErrState", Rows.laid_bailee_api_ErrState), ("bailee/api.ErrPower", Rows.laid_bailee_api_ErrPower), ("bailee/api.ErrProof", Rows.laid_bailee_api_ErrProof), ("bailee/api.ErrSpare", Rows.laid_bailee_api_ErrSpare), ("bailee/api.ErrLost", Rows.laid_bailee_api_ErrLost), ("bailee/api.ErrBudget", Rows.laid_bailee_api_ErrBudget), ("bailee/api.ErrLate", Rows.laid_bailee_api_ErrLate), ("bailee/api.ErrZero", Rows.laid_bailee_api_ErrZero)] [.sentinel, .sentinel, .sentinel, .sentinel, .sentinel, .sentinel, .sentinel, .sentinel, .sentinel, .sentinel, .sentinel, .sentinel, .sentinel, .sentinel, .sentinel, .sentinel, .sentinel, .sentinel, .sentinel, .sentinel] true :=
  Program.laidByTextLater.sub seatTie1 ["bailee/api.ErrRange", "bailee/api.ErrShort", "bailee/api.ErrLong", "bailee/api.ErrForm", "bailee/api.ErrSum", "bailee/api.ErrName", "bailee/api.ErrKind", "bailee/api.ErrSize", "bailee/api.ErrKey", "bailee/api.ErrDup", "bailee/api.ErrNone", "bailee/api.ErrFull", "bailee/api.ErrState", "bailee/api.ErrPower", "bailee/api.ErrProof", "bailee/api.ErrSpare", "bailee/api.ErrLost", "bailee/api.ErrBudget", "bailee/api.ErrLate", "bailee/api.ErrZero"] (by kernel_rfl) (by kernel_rfl)
theorem locateErasures_row_tie : Rows.locateErasuresRow.laidByTextAt .later Tryd.pinned [.sentinel, .sentinel, .sentinel, .sentinel, .sentinel, .sentinel, .sentinel, .sentinel, .sentinel, .sentinel, .sentinel, .sentinel, .sentinel, .sentinel, .sentinel, .sentinel, .sentinel, .sentinel, .sentinel, .sentinel] true :=
  OpenClaim.laidByTextAt_later rfl rfl tie2 noOwnUnsafe
theorem locateFinds_row_tie : Rows.locateFindsRow.laidByTextAt .later Tryd.pinned [.sentinel, .sentinel, .sentinel, .sentinel, .sentinel, .sentinel, .sentinel, .sentinel, .sentinel, .sentinel, .sentinel, .sentinel, .sentinel, .sentinel, .sentinel, .sentinel, .sentinel, .sentinel, .sentinel, .sentinel] true :=
  OpenClaim.laidByTextAt_later rfl rfl tie2 noOwnUnsafe
theorem tie3 : Tryd.prog.laidByTextLater [("bailee/api.ErrRange", Rows.laid_bailee_api_ErrRange), ("bailee/api.ErrSize", Rows.laid_bailee_api_ErrSize), ("bailee/api.ErrDup", Rows.laid_bailee_api_ErrDup), ("bailee/api.ErrSpare", Rows.laid_bailee_api_ErrSpare), ("bailee/api.ErrLost", Rows.laid_bailee_api_ErrLost), ("bailee/api.ErrZero", Rows.laid_bailee_api_ErrZero)] [.sentinel, .sentinel, .sentinel, .sentinel, .sentinel, .sentinel] true :=
  Program.laidByTextLater.sub seatTie1 ["bailee/api.ErrRange", "bailee/api.ErrSize", "bailee/api.ErrDup", "bailee/api.ErrSpare", "bailee/api.ErrLost", "bailee/api.ErrZero"] (by kernel_rfl) (by kernel_rfl)
theorem repairRight_row_tie : Rows.repairRightRow.laidByTextAt .later Tryd.pinned [.sentinel, .sentinel, .sentinel, .sentinel, .sentinel, .sentinel] true :=
  OpenClaim.laidByTextAt_later rfl rfl tie3 noOwnUnsafe
theorem repairBack_row_tie : Rows.repairBackRow.laidByTextAt .later Tryd.pinned [.sentinel, .sentinel, .sentinel, .sentinel, .sentinel, .sentinel] true :=
  OpenClaim.laidByTextAt_later rfl rfl tie3 noOwnUnsafe
theorem repairErased_row_tie : Rows.repairErasedRow.laidByTextAt .later Tryd.pinned [.sentinel, .sentinel, .sentinel, .sentinel, .sentinel, .sentinel] true :=
  OpenClaim.laidByTextAt_later rfl rfl tie3 noOwnUnsafe
theorem tie4 : Tryd.prog.laidByTextLater [("bailee/api.ErrRange", Rows.laid_bailee_api_ErrRange), ("bailee/api.ErrForm", Rows.laid_bailee_api_ErrForm), ("bailee/api.ErrSize", Rows.laid_bailee_api_ErrSize), ("bailee/api.ErrDup", Rows.laid_bailee_api_ErrDup), ("bailee/api.ErrSpare", Rows.laid_bailee_api_ErrSpare), ("bailee/api.ErrLost", Rows.laid_bailee_api_ErrLost), ("bailee/api.ErrZero", Rows.laid_bailee_api_ErrZero)] [.sentinel, .sentinel, .sentinel, .sentinel, .sentinel, .sentinel, .sentinel] true :=
  Program.laidByTextLater.sub seatTie1 ["bailee/api.ErrRange", "bailee/api.ErrForm", "bailee/api.ErrSize", "bailee/api.ErrDup", "bailee/api.ErrSpare", "bailee/api.ErrLost", "bailee/api.ErrZero"] (by kernel_rfl) (by kernel_rfl)
theorem stripeBack_row_tie : Rows.stripeBackRow.laidByTextAt .later Tryd.pinned [.sentinel, .sentinel, .sentinel, .sentinel, .sentinel, .sentinel, .sentinel] true :=
  OpenClaim.laidByTextAt_later rfl rfl tie4 noOwnUnsafe
theorem locateRegistersUpto_row_tie : Rows.locateRegistersUptoRow.laidByTextAt .later Tryd.pinned [.sentinel, .sentinel, .sentinel, .sentinel, .sentinel] true :=
  OpenClaim.laidByTextAt_later rfl rfl tie noOwnUnsafe
theorem locateErasuresUpto_row_tie : Rows.locateErasuresUptoRow.laidByTextAt .later Tryd.pinned [.sentinel, .sentinel, .sentinel, .sentinel, .sentinel, .sentinel, .sentinel, .sentinel, .sentinel, .sentinel, .sentinel, .sentinel, .sentinel, .sentinel, .sentinel, .sentinel, .sentinel, .sentinel, .sentinel, .sentinel] true :=
  OpenClaim.laidByTextAt_later rfl rfl tie2 noOwnUnsafe
theorem locateFindsUpto_row_tie : Rows.locateFindsUptoRow.laidByTextAt .later Tryd.pinned [.sentinel, .sentinel, .sentinel, .sentinel, .sentinel, .sentinel, .sentinel, .sentinel, .sentinel, .sentinel, .sentinel, .sentinel, .sentinel, .sentinel, .sentinel, .sentinel, .sentinel, .sentinel, .sentinel, .sentinel] true :=
  OpenClaim.laidByTextAt_later rfl rfl tie2 noOwnUnsafe
theorem locatePlacesUpto_row_tie : Rows.locatePlacesUptoRow.laidByTextAt .later Tryd.pinned [.sentinel, .sentinel, .sentinel, .sentinel, .sentinel] true :=
  OpenClaim.laidByTextAt_later rfl rfl tie noOwnUnsafe
theorem locateEquationUpto_row_tie : Rows.locateEquationUptoRow.laidByTextAt .later Tryd.pinned [.sentinel, .sentinel, .sentinel, .sentinel, .sentinel] true :=
  OpenClaim.laidByTextAt_later rfl rfl tie noOwnUnsafe
theorem repairRightUpto_row_tie : Rows.repairRightUptoRow.laidByTextAt .later Tryd.pinned [.sentinel, .sentinel, .sentinel, .sentinel, .sentinel, .sentinel] true :=
  OpenClaim.laidByTextAt_later rfl rfl tie3 noOwnUnsafe
theorem repairBackUpto_row_tie : Rows.repairBackUptoRow.laidByTextAt .later Tryd.pinned [.sentinel, .sentinel, .sentinel, .sentinel, .sentinel, .sentinel] true :=
  OpenClaim.laidByTextAt_later rfl rfl tie3 noOwnUnsafe
theorem repairErasedUpto_row_tie : Rows.repairErasedUptoRow.laidByTextAt .later Tryd.pinned [.sentinel, .sentinel, .sentinel, .sentinel, .sentinel, .sentinel] true :=
  OpenClaim.laidByTextAt_later rfl rfl tie3 noOwnUnsafe
theorem stripeBackUpto_row_tie : Rows.stripeBackUptoRow.laidByTextAt .later Tryd.pinned [.sentinel, .sentinel, .sentinel, .sentinel, .sentinel, .sentinel, .sentinel] true :=
  OpenClaim.laidByTextAt_later rfl rfl tie4 noOwnUnsafe
end Go.Proofs.YtfblhdomjnffcaaDoor
