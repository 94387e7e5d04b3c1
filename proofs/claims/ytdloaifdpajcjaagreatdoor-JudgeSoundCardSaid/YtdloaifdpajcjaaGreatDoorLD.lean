import Derived.Test.YtdloaifdpajcjaaGreatDoorGW
import Derived.Lib.LaidTab
set_option linter.unusedVariables false
set_option linter.unusedSimpArgs false
namespace Go.Proofs.YtdloaifdpajcjaaGreatDoor
open Go.ChangeShapes Go.WideShapes Go.ChangeAt Go.RowKit Go.Bl
theorem uP {P : Program} {w : World} : ∀ (l1 l2 : List (String × DataW Unit)) (ps : List MemPlace), DataW.LaidVars P w (l1 ++ l2) ps -> ∃ p q, DataW.LaidVars P w l1 p /\ DataW.LaidVars P w l2 q /\ ps = p ++ q
 | [], l2, ps, h => ⟨[], ps, rfl, h, rfl⟩
 | (n, d) :: l1, l2, ps, h => by
  obtain ⟨g, t, cs, fuel, p, q, h1, h2, h3, h4, h5, rfl⟩ := h
  obtain ⟨p', q', h6, h7, rfl⟩ := uP l1 l2 q h5
  exact ⟨MemPlace.row ⟨g, 0, none⟩ cs.size ++ p ++ p', q', ⟨g, t, cs, fuel, p, p', h1, h2, h3, h4, h6, rfl⟩, h7, by simp⟩
theorem yC {P : Program} {W : World} {L A M B : List (String × DataW Unit)} (h : laidMet P L W) (e : L = A ++ (M ++ B)) : laidMet P M W := by
 subst e
 obtain ⟨ps, hv, hn, hc⟩ := h
 obtain ⟨p, q, -, h2, rfl⟩ := uP A (M ++ B) ps hv
 obtain ⟨r, s, h3, -, rfl⟩ := uP M B q h2
 exact ⟨r, h3, ((List.nodup_append.1 (List.nodup_append.1 hn).2.1).1), fun b off hm => hc b off (by simp [hm])⟩
theorem XA {P : Program} {W : World} {name : String} {zs : List Int} {k : IntKind} {g : Nat} {t e : TypeId} {n : Nat} (h : laidMet P [(name, Lib.tabData k zs)] W) (hg : P.globalNamed name = some g) (hty : (P.globals[g]?).map (·.type) = some t) (ht : P.underlying t = some (.array n e)) (he : P.underlying e = some (.int k)) (hce : P.cellsOf e = 1) (hct : P.cellsOf t = n) :
  ∀ i, i < zs.length -> W.cell? ⟨g, i, none⟩ = some (.int k (zs.getD i 0)) := by
 obtain ⟨ps, ⟨g', t', cs, fuel, p, q, hg', ht', hvar, hdd, hq, -⟩, -⟩ := h
 obtain rfl := Option.some.inj (hg.symm.trans hg')
 obtain rfl := Option.some.inj (hty.symm.trans ht')
 have hT : Lib.TabIs P W name k zs := by
  unfold Lib.TabIs
  rw [hvar, <- Lib.cells_of_tab ht he hce hct hdd]
 exact fun i hi => hT.cell hg i hi
theorem qbn (l : List UInt32) (i : Nat) : (l.map wN).getD i 0 = wN (l.getD i 0) := by
 rw [List.getD_eq_getElem?_getD, List.getD_eq_getElem?_getD, List.getElem?_map]
 cases l[i]? <;> rfl
theorem qg8 {W : World} {g : Nat} (h : ∀ i, i < (Qk.map wN).length -> W.cell? ⟨g, i, none⟩ = some (.int .u32 ((Qk.map wN).getD i 0))) : KAt g W := fun i hi => by
 rw [h i (by rw [List.length_map]; exact hi), qbn]
theorem qgY {W : World} {g : Nat} (h : ∀ i, i < (yb.l.map wN).length -> W.cell? ⟨g, i, none⟩ = some (.int .u32 ((yb.l.map wN).getD i 0))) : FAt g W := fun j v hv => by
 have hj : j < yb.l.length := by
  rcases Nat.lt_or_ge j yb.l.length with h9 | h9
  ·exact h9
  ·rw [List.getElem?_eq_none (by rw [List.length_map]; exact h9)] at hv; cases hv
 rw [Nat.zero_add, h j (by rw [List.length_map]; exact hj), qbn]
 rw [List.getElem?_map, List.getElem?_eq_getElem hj] at hv
 rw [List.getD_eq_getElem?_getD, List.getElem?_eq_getElem hj]
 exact hv
theorem qhF {W : World} (h1 : laidMet Tryz.prog [("bailee/sha.first", Lib.tabData .u32 (yb.l.map wN))] W) (h2 : laidMet Tryz.prog [("bailee/sha.added", Lib.tabData .u32 (Qk.map wN))] W) : SG W := by
 have c1 := XA h1 (g := 20) (t := 211) Y55 Y55 Tryz.underlying211 Tryz.underlying209 Y55 Y55
 have c2 := XA h2 (g := 21) (t := 281) Y55 Y55 Tryz.underlying281 Tryz.underlying209 Y55 Y55
 have c0 := c2 0 (by rw [List.length_map]; decide)
 exact ⟨qgY c1, qg8 c2, World.block_lt_of_cell? W _ c0⟩
end Go.Proofs.YtdloaifdpajcjaaGreatDoor
