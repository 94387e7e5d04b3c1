import Derived.Test.YtnafknkchbfpaaaGreatDoorGH
import Derived.Test.YtnafknkchbfpaaaGreatDoorGI
import Derived.Outline
import Derived.Maps.RangeWalk
set_option maxRecDepth 1000000
set_option maxHeartbeats 8000000
namespace Go.Proofs.YtnafknkchbfpaaaGreatDoor
open Go.RowKit Go.Bl
set_option linter.unusedVariables false
def longB (mn fn : Nat) (s : Int) : Bool := decide (100 < mn ∨ 400 < fn ∨ (400 < s /\ s <= 2000))
theorem long16_any (w : World) (ma fa : Option Addr) (mn mc fn fc : Nat) (n : Int) (q : Par) : Calls Tryz.prog 10 #[.agg #[.slice ma mn mc, .int .i64 n, .slice fa fn fc, .int .i64 q.size, .int .i64 q.sent, .int .i64 q.spots, .int .i64 q.per, .int .i64 q.pat, .int .i64 q.ret]] w fun e w' => e = .returned (.bool (longB mn fn q.size)) /\ Fr [] w w' := by
 obtain ⟨r, hr⟩ := exq (longB mn fn q.size)
 rw [hr]
 by_cases h1 : 100 < mn
 ·have HR := Hdq (hr.symm.trans (show longB mn fn q.size = true from decide_eq_true (.inl h1)))
  have h2 : (100 : Int) < (mn : Int) := by omega
  clear hr h1
  go_enter Tryz.func10, Tryz.ntmps10
  go_wp2
  go_ret
  exact ⟨by rw [HR.out]; rfl, Fr.alloc _ _⟩
 ·have h2 : ¬ (100 : Int) < (mn : Int) := by omega
  by_cases h3 : 400 < fn
  ·have HR := Hdq (hr.symm.trans (show longB mn fn q.size = true from decide_eq_true (.inr (.inl h3))))
   have h4 : (400 : Int) < (fn : Int) := by omega
   clear hr h1 h3
   go_enter Tryz.func10, Tryz.ntmps10
   go_wp2
   go_ret
   exact ⟨by rw [HR.out]; rfl, Fr.alloc _ _⟩
  ·have h4 : ¬ (400 : Int) < (fn : Int) := by omega
   obtain ⟨s, hs⟩ := exq (q.size)
   rw [hs] at hr ⊢
   by_cases h5 : 400 < s
   ·by_cases h6 : s <= 2000
    ·have HR := Hdq (hr.symm.trans (show longB mn fn s = true from decide_eq_true (.inr (.inr ⟨h5, h6⟩))))
     clear hr h1 h3 hs
     go_enter Tryz.func10, Tryz.ntmps10
     go_wp2
     go_ret
     exact ⟨by rw [HR.out]; rfl, Fr.alloc _ _⟩
    ·have HR := Hdq (hr.symm.trans (show longB mn fn s = false from decide_eq_false (fun h => by rcases h with h | h | h <;> omega)))
     clear hr h1 h3 hs
     go_enter Tryz.func10, Tryz.ntmps10
     go_wp2
     go_ret
     exact ⟨by rw [HR.out]; rfl, Fr.alloc _ _⟩
   ·have HR := Hdq (hr.symm.trans (show longB mn fn s = false from decide_eq_false (fun h => by rcases h with h | h | h <;> omega)))
    clear hr h1 h3 hs
    go_enter Tryz.func10, Tryz.ntmps10
    go_wp2
    go_ret
    exact ⟨by rw [HR.out]; rfl, Fr.alloc _ _⟩
end Go.Proofs.YtnafknkchbfpaaaGreatDoor
