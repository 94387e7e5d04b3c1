/-
  The document's shape of a file (out of the text on StripeShapes).
-/
import Derived.Test.YtenjpnhccnmnpaaDoorShp
namespace Go.Proofs.YtenjpnhccnmnpaaDoor
open Go.RowKit Go.Bl
set_option linter.unusedVariables false

set_option maxHeartbeats 1000000 in
theorem rshape_bad (w : World) (size : Int) (h : size < 0 ∨ 2000 < size) :
    Calls Tryd.prog 20 #[.int .i64 size] w fun e w' => e = .returned (.tuple #[.slice none 0 0, .int .i64 8]) ∧ Fr [] w w' := by
  rcases h with h | h
  all_goals
    go_enter Tryd.func20, Tryd.ntmps20
    go_wp2
    go_ret2
    exact ⟨rfl, Fr.refl _ _⟩

set_option maxHeartbeats 1000000 in
theorem rshape_ok (w : World) (size : Int) (h0 : 0 ≤ size) (h2 : size ≤ 2000) :
    Calls Tryd.prog 20 #[.int .i64 size] w fun e w' => ∃ v, e = .returned (.tuple #[v, .int .i64 0]) ∧ OwnI 3 w.heap.size w' v (shapeOf (nblk size)) ∧ Fr [] w w' := by
  have hn := nblk_le size h2
  have hdiv : (0 < size % 8 ∨ size = 0) ∧ (nblk size : Int) = size / 8 + 1 ∨ (size % 8 = 0 ∧ size ≠ 0) ∧ (nblk size : Int) = size / 8 := by unfold nblk; omega
  have hsh := shapeOf_ref (nblk size) hn.1 hn.2
  obtain ⟨n, HN⟩ : ∃ n, Hid (nblk size = n) := ⟨_, rfl⟩
  rw [HN.out] at hn hdiv hsh ⊢
  have HS := Lib.hid hsh
  clear hsh
  have hz : size = 0 ∨ 0 < size := by omega
  have h00 := OwnV.lit 3 w.heap.size w #[] (Nat.le_refl _) (by simp [maxLen])
  have hcase : (size = 0 ∧ (n : Int) = 1) ∨ (0 < size ∧ 0 < size % 8 ∧ (n : Int) = size / 8 + 1) ∨ (0 < size ∧ size % 8 = 0 ∧ (n : Int) = size / 8) := by omega
  have hrep : ∀ j m : Nat, n = m + 223 * j → 1 ≤ m → m ≤ 223 → List.replicate j (223 : Int) ++ [(m : Int)] = shapeOf n := by
    intro j m h1 h2 h3
    rcases HS.out with ⟨g, e⟩ | ⟨g, e⟩
    · have : j = 0 := by omega
      subst this
      have : m = n := by omega
      subst this
      rw [e]; rfl
    · have : j = 1 := by omega
      subst this
      rw [e]
      have : (m : Int) = (n : Int) - 223 := by omega
      rw [this]; rfl
  have HR := Lib.hid hrep
  clear hdiv hz hrep HS
  rcases hcase with ⟨rfl, g2⟩ | ⟨hz, g1, g2⟩ | ⟨hz, g1, g2⟩
  all_goals
    have HD := Lib.hid g2
    clear g2
    go_enter Tryd.func20, Tryd.ntmps20
    go_wp2
    go_loopw [4, 5] (fun l v wr => ∃ j m : Nat, n = m + 223 * j ∧ 1 ≤ m ∧ l = .int .i64 m ∧ OwnI 3 w.heap.size wr v (List.replicate j 223) ∧ Fr [] w wr) (fun l _ _ => (intOf l).toNat)
    case atStart => exact ⟨0, n, by omega, hn.1, congrArg _ (by have := HD.out; omega), h00, Fr.alloc _ _⟩
    case round =>
      obtain ⟨j, m, hj, hm1, rfl, ho, hf⟩ := hrel
      have HJ := Lib.hid hj
      have hmb : m ≤ 250 ∧ j ≤ 1 := by omega
      have hsz := hf.size
      have hlen : (List.replicate j (223 : Int)).length ≤ 2 := by simp; omega
      clear hj
      by_cases hpos : 223 < m
      · go_wp2_with (at_builtin; refine wpl_append_i Tryd.underlying24 Tryd.infoInt rfl (.tmp 26) (.tmp 27) rfl rfl rfl ho (by omega) hsz ?_)
        intro v' w' h5 h6
        have hf' := Lib.hid (OwnI.fr (OwnI.keep0 ho (Fr.alloc _ _)) (hf.trans (Fr.alloc _ _)) h6 (Nat.le_refl _))
        clear ho hf h6
        go_wp2
        go_roundw
        case rel => exact ⟨j + 1, m - 223, by have := HJ.out; omega, by omega, congrArg _ (by omega), by rw [List.replicate_succ']; exact h5, hf'.out⟩
        case measure => simp [intOf]; omega
      · have he := Lib.hid (HR.out j m HJ.out hm1 (by omega))
        go_wp2_with (at_builtin; refine wpl_append_i Tryd.underlying24 Tryd.infoInt rfl (.tmp 31) (.tmp 33) rfl rfl rfl ho (by omega) hsz ?_)
        intro v' w' h5 h6
        have hf' := Lib.hid (OwnI.fr (OwnI.keep0 ho (Fr.alloc _ _)) (hf.trans (Fr.alloc _ _)) h6 (Nat.le_refl _))
        clear ho hf h6
        go_wp2
        go_ret2
        exact ⟨_, rfl, by rw [← he.out]; exact h5, hf'.out⟩

end Go.Proofs.YtenjpnhccnmnpaaDoor
