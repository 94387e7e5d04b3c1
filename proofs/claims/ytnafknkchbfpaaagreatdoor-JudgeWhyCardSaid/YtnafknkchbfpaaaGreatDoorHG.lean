import Derived.Test.YtnafknkchbfpaaaGreatDoorHF
set_option linter.unusedVariables false
set_option linter.unusedSimpArgs false
namespace Go.Proofs.YtnafknkchbfpaaaGreatDoor
open Go.RowKit Go.Bl
theorem blk_le {p : Par} (h : jj p 0) : 0 <= blk p.size /\ blk p.size <= 510 := by
 have h1 : 0 <= p.size /\ p.size <= 2000 := h
 have hn := vK p.size h1.2
 have hs := QI _ (uQ _ hn.1 hn.2) (qO (yZ p.size)).length (Nat.le_refl _)
 rw [List.take_length] at hs
 exact hs
theorem QV {p : Par} (h : chk p = 0) : jj p 0 /\ jj p 1 := by
 unfold chk at h
 by_cases h0 : jj p 0
 ·by_cases h1 : jj p 1
  ·exact ⟨h0, h1⟩
  ·simp [h0, h1] at h
 ·simp [h0] at h
def La (w : World) (mb : Nat) (N D : Nat) (m : List UInt8) (n : Int) : Prop := ∃ (u0 u1 u2 u3 u4 : Value) (ob kb okb : Nat), At w mb (.cells #[u0, u1, u2, u3, u4, .pointer (some ⟨ob, 0, none⟩), .pointer (some ⟨kb, 0, none⟩), .int .i64 (D : Int), .int .i64 (N : Int)] 136) /\ Yc w ob okb N (jd N) /\ xf w okb (qi m qx n) /\ xf w kb (qi m jI n) /\ Bs (fun _ => False) w u0 (qi m jU n) /\ Bs (fun _ => False) w u2 (qi m qV n)
theorem La.keep {w w' : World} {mb N D : Nat} {m : List UInt8} {n : Int} (h : La w mb N D m n) (hf : Fr [] w w') : La w' mb N D m n := by
 obtain ⟨u0, u1, u2, u3, u4, ob, kb, okb, a1, a2, a3, a4, a5, a6⟩ := h
 exact ⟨u0, u1, u2, u3, u4, ob, kb, okb, a1.keep0 hf, a2.keep hf, a3.keep hf, a4.keep hf, a5.keep hf Y77, a6.keep hf Y77⟩
def sdE (p : Par) (m : List UInt8) (n : Int) : Nat := if chk p ≠ 0 then chk p else qc m n
theorem qbM {p : Par} (h : jj p 0) : 1 <= blk p.size := by
 have h1 : 0 <= p.size /\ p.size <= 2000 := h
 have hn := vK p.size h1.2
 unfold blk qO
 split <;> simp only [xE, List.foldl_cons, List.foldl_nil] <;> omega
end Go.Proofs.YtnafknkchbfpaaaGreatDoor
