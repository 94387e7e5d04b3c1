import Derived.Test.YtnafknkchbfpaaaGreatDoorHG
set_option linter.unusedVariables false
set_option linter.unusedSimpArgs false
namespace Go.Proofs.YtnafknkchbfpaaaGreatDoor
open Go.RowKit Go.Bl
theorem La.sent {w : World} {mb N D : Nat} {m : List UInt8} {n : Int} (h : La w mb N D m n) : ∃ (c : Array Value) (u : Value), At w mb (.cells c 136) /\ c[2]? = some u /\ c[7]? = some (.int .i64 (D : Int)) /\ c[8]? = some (.int .i64 (N : Int)) /\ Bs (fun _ => False) w u (qi m qV n) := by
 obtain ⟨u0, u1, u2, u3, u4, ob, kb, okb, a1, -, -, -, -, a6⟩ := h
 exact ⟨_, u2, a1, rfl, rfl, rfl, a6⟩
theorem La.laid {w : World} {mb N D : Nat} {m : List UInt8} {n : Int} (h : La w mb N D m n) : ∃ (c : Array Value) (ob okb : Nat), At w mb (.cells c 136) /\ c[5]? = some (.pointer (some ⟨ob, 0, none⟩)) /\ Yc w ob okb N (jd N) /\ xf w okb (qi m qx n) := by
 obtain ⟨u0, u1, u2, u3, u4, ob, kb, okb, a1, a2, a3, -, -, -⟩ := h
 exact ⟨_, ob, okb, a1, rfl, a2, a3⟩
end Go.Proofs.YtnafknkchbfpaaaGreatDoor
