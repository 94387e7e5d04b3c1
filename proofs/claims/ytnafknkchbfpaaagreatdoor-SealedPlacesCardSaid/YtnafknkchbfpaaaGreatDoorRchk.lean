import Derived.Test.YtnafknkchbfpaaaGreatDoorAhd3
import Derived.OwnWalk
set_option maxRecDepth 1000000
set_option maxHeartbeats 8000000
namespace Go.Proofs.YtnafknkchbfpaaaGreatDoor
open Go.RowKit Go.Bl
set_option linter.unusedVariables false
theorem rtotal_ok (w : World) (size : Int) (h0 : 0 <= size) (h2 : size <= 2000) :
  Calls Tryz.prog 69 #[.int .i64 size] w fun e w' => e = .returned (.tuple #[.int .i64 (sumT (shapeOf (nblk size))), .int .i64 0]) /\ Fr [] w w' := by
 have hn := nblk_le size h2
 have hs := Hdq (rshape_ok w size h0 h2)
 have hsh := Hdq (sh_shapeOf _ hn.1 hn.2)
 obtain ⟨sh, HSH⟩ : ∃ sh, Hid (shapeOf (nblk size) = sh) := ⟨_, rfl⟩
 rw [HSH.out] at hs hsh ⊢
 clear HSH hn
 go_enter Tryz.func69, Tryz.ntmps69
 go_wp2_with fail
 refine hs.out.mono ?_; rintro e w1 ⟨v, rfl, ho, hf⟩
 obtain ⟨a, cap, rfl, h3, h4, hc⟩ := (ho.is (A := fun _ => False) (by simp)).shape
 have hl := hsh.out.len
 clear ho
 go_wp2
 go_loop [6, 16] (fun t i => ∃ j : Nat, j <= sh.length /\ i = .int .i64 j /\ t = .int .i64 (sumT (sh.take j))) (fun _ i => 2 - (intOf i).toNat)
 case atStart => exact ⟨0, Nat.zero_le _, rfl, by rw [List.take_zero]; rfl⟩
 case round =>
  obtain ⟨j, hj, rfl, rfl⟩ := hrel
  have hbd := sumT_bd sh hsh.out j hj
  by_cases hjn : j < sh.length
  ·obtain ⟨b1, o1, rfl, -, hc1⟩ := hc (by omega)
   have g1 := hc1 j hjn
   have hx := hsh.out.at_ j hjn
   have hs' := Hdq (sumT_take sh j hjn)
   obtain ⟨x, HX⟩ : ∃ x, Hid (sh.getD j 0 = x) := ⟨_, rfl⟩
   rw [HX.out] at g1 hx hs'
   obtain ⟨y, HY⟩ : ∃ y, Hid (sumT (sh.take j) = y) := ⟨_, rfl⟩
   rw [HY.out] at hbd hs' ⊢
   clear hc hc1
   go_wp2
   go_round
   case rel => exact ⟨j + 1, by omega, by go_num, by rw [hs'.out]⟩
   case measure => simp [intOf]; omega
  ·obtain rfl : j = sh.length := by omega
   have he := Hdq (List.take_of_length_le (Nat.le_refl sh.length))
   rw [he.out] at hbd ⊢
   go_wp2
   go_ret2
   exact ⟨rfl, hf⟩
theorem rpar_cells {w : World} {b : Nat} {p : Par} (h : w.heap[b]? = some (.cells #[.int .i64 p.size, .int .i64 p.sent, .int .i64 p.spots, .int .i64 p.per, .int .i64 p.pat, .int .i64 p.ret] 44 (0, 0))) :
  w.cell? ⟨b, 0, none⟩ = some (.int .i64 p.size) /\ w.cell? ⟨b, 1, none⟩ = some (.int .i64 p.sent) /\ w.cell? ⟨b, 2, none⟩ = some (.int .i64 p.spots) /\ w.cell? ⟨b, 3, none⟩ = some (.int .i64 p.per) /\ w.cell? ⟨b, 4, none⟩ = some (.int .i64 p.pat) /\ w.cell? ⟨b, 5, none⟩ = some (.int .i64 p.ret) :=
 ⟨by rw [cell_of h]; rfl, by rw [cell_of h]; rfl, by rw [cell_of h]; rfl, by rw [cell_of h]; rfl, by rw [cell_of h]; rfl, by rw [cell_of h]; rfl⟩
theorem chk0 (p : Par) (h : ¬ okAt p 0) : chk p = 8 := chk_bad p 0 (by decide) (fun i h => by omega) h
theorem chk1 (p : Par) (h0 : okAt p 0) (h : ¬ okAt p 1) : chk p = 18 := chk_bad p 1 (by decide) (fun i h => by
 have : i = 0 := by omega
 subst this; exact h0) h
theorem chk2 (p : Par) (h0 : okAt p 0) (h1 : okAt p 1) (h : ¬ (okAt p 2 /\ okAt p 3 /\ okAt p 4 /\ okAt p 5)) : chk p = 1 := by
 unfold chk
 rw [if_neg (by simp [h0]), if_neg (by simp [h1]), if_pos]
 by_cases h2 : okAt p 2
 ·by_cases h3 : okAt p 3
  ·by_cases h4 : okAt p 4
   ·by_cases h5 : okAt p 5
    ·exact absurd ⟨h2, h3, h4, h5⟩ h
    ·exact .inr (.inr (.inr h5))
   ·exact .inr (.inr (.inl h4))
  ·exact .inr (.inl h3)
 ·exact .inl h2
theorem chk3 (p : Par) (h0 : okAt p 0) (h1 : okAt p 1) (h : okAt p 2 /\ okAt p 3 /\ okAt p 4 /\ okAt p 5) : chk p = 0 := by
 simp [chk, h0, h1, h.1, h.2.1, h.2.2.1, h.2.2.2]
theorem rcheck_any (w : World) (p : Par) :
  Calls Tryz.prog 63 #[.agg #[.int .i64 p.size, .int .i64 p.sent, .int .i64 p.spots, .int .i64 p.per, .int .i64 p.pat, .int .i64 p.ret]] w fun e w' => ∃ s v, e = .returned (.tuple #[s, v, .int .i64 (chk p)]) /\ Fr [] w w' := by
 have h0 : p.size < 0 ∨ (0 <= p.size /\ 2000 < p.size) ∨ (0 <= p.size /\ p.size <= 2000) := by omega
 have h1 : p.sent < 0 ∨ (0 <= p.sent /\ 8 < p.sent) ∨ (0 <= p.sent /\ p.sent <= 8) := by omega
 rcases h0 with h0 | h0 | h0
 ·have HB := Hdq (chk0 p (by simp only [okAt]; omega))
  go_enter Tryz.func63, Tryz.ntmps63
  go_wp2
  go_quiet (fail)
  go_wp2
  refine bodyPost_ret (results_tmp3 rfl _ _ _) rfl ⟨_, _, by rw [HB.out]; rfl, (Fr.alloc _ _).trans ((Dr.refl _).drewN _).fr⟩
 ·have HB := Hdq (chk0 p (by simp only [okAt]; omega))
  go_enter Tryz.func63, Tryz.ntmps63
  go_wp2
  go_quiet (fail)
  go_wp2
  refine bodyPost_ret (results_tmp3 rfl _ _ _) rfl ⟨_, _, by rw [HB.out]; rfl, (Fr.alloc _ _).trans ((Dr.refl _).drewN _).fr⟩
 ·have g0 : okAt p 0 := h0
  rcases h1 with h1 | h1 | h1
  ·have HB := Hdq (chk1 p g0 (by simp only [okAt]; omega))
   go_enter Tryz.func63, Tryz.ntmps63
   go_wp2
   go_quiet (fail)
   go_wp2
   exact bodyPost_ret (results_tmp3 rfl _ _ _) rfl ⟨_, _, by rw [HB.out]; rfl, (Fr.alloc _ _).trans ((Dr.refl _).drewN _).fr⟩
  ·have HB := Hdq (chk1 p g0 (by simp only [okAt]; omega))
   go_enter Tryz.func63, Tryz.ntmps63
   go_wp2
   go_quiet (fail)
   go_wp2
   exact bodyPost_ret (results_tmp3 rfl _ _ _) rfl ⟨_, _, by rw [HB.out]; rfl, (Fr.alloc _ _).trans ((Dr.refl _).drewN _).fr⟩
  ·have g1 : okAt p 1 := h1
   have hto : ∀ w, Calls Tryz.prog 69 #[.int .i64 p.size] w fun e w' => e = .returned (.tuple #[.int .i64 (blk p.size), .int .i64 0]) /\ Fr [] w w' := fun w => rtotal_ok w p.size h0.1 h0.2
   have hi2 : okAt p 2 ↔ (1 <= p.spots /\ p.spots <= 12 /\ p.spots <= blk p.size + p.sent) := by
    simp only [okAt]; omega
   have hnb := nblk_le p.size h0.2
   have hbb := sumT_bd _ (sh_shapeOf _ hnb.1 hnb.2) (shapeOf (nblk p.size)).length (Nat.le_refl _)
   rw [List.take_length, show sumT (shapeOf (nblk p.size)) = blk p.size from rfl] at hbb
   have hb2 : (¬ (okAt p 2 /\ okAt p 3 /\ okAt p 4 /\ okAt p 5)) -> chk p = 1 := chk2 p g0 g1
   have hb3 : (okAt p 2 /\ okAt p 3 /\ okAt p 4 /\ okAt p 5) -> chk p = 0 := chk3 p g0 g1
   obtain ⟨n, hn⟩ := exq (blk p.size)
   rw [hn] at hi2 hbb
   simp only [hn] at hto
   have HTO := Hdq hto
   have HI2 := Hdq hi2
   have HB2 := Hdq hb2
   have HB3 := Hdq hb3
   clear hto hi2 hb2 hb3 hn hnb g0 g1
   have h2 : p.spots < 1 ∨ (1 <= p.spots /\ 12 < p.spots) ∨ (1 <= p.spots /\ p.spots <= 12 /\ n + p.sent < p.spots) ∨ (1 <= p.spots /\ p.spots <= 12 /\ p.spots <= n + p.sent) := by omega
   have h3 : p.per < 1 ∨ (1 <= p.per /\ 10000 < p.per) ∨ (1 <= p.per /\ p.per <= 10000) := by omega
   have h4 : p.pat < 1 ∨ (1 <= p.pat /\ p.per < p.pat) ∨ (1 <= p.pat /\ p.pat <= p.per) := by omega
   have h5 : p.ret < 0 ∨ (0 <= p.ret /\ 5 < p.ret) ∨ (0 <= p.ret /\ p.ret <= 5) := by omega
   go_enter Tryz.func63, Tryz.ntmps63
   go_wp2_with fail
   refine (HTO.out _).mono ?_
   rintro e w1 ⟨rfl, hf⟩
   obtain ⟨k0, k1, k2, k3, k4, k5⟩ := rpar_cells (hf.keep (heap_alloc_new w _) (by simp))
   have HF := Hdq ((Fr.alloc (S := []) w _).trans hf)
   clear hf
   rcases h2 with h2 | h2 | h2 | h2
   iterate 3
    ·have HB := Hdq (HB2.out (fun h => by have := HI2.out.1 h.1; omega))
     clear h3 h4 h5 HB2 HB3 HI2
     go_wp2
     go_quiet (fail)
     go_wp2
     exact bodyPost_ret (results_tmp3 rfl _ _ _) rfl ⟨_, _, by rw [HB.out]; rfl, HF.out.trans ((Dr.refl _).drewN _).fr⟩
   rcases h3 with h3 | h3 | h3
   iterate 2
    ·have HB := Hdq (HB2.out (fun h => by have : 1 <= p.per /\ p.per <= 10000 := h.2.1; omega))
     clear h4 h5 HB2 HB3 HI2
     go_wp2
     go_quiet (fail)
     go_wp2
     exact bodyPost_ret (results_tmp3 rfl _ _ _) rfl ⟨_, _, by rw [HB.out]; rfl, HF.out.trans ((Dr.refl _).drewN _).fr⟩
   rcases h4 with h4 | h4 | h4
   iterate 2
    ·have HB := Hdq (HB2.out (fun h => by have : 1 <= p.pat /\ p.pat <= p.per := h.2.2.1; omega))
     clear h5 HB2 HB3 HI2
     go_wp2
     go_quiet (fail)
     go_wp2
     exact bodyPost_ret (results_tmp3 rfl _ _ _) rfl ⟨_, _, by rw [HB.out]; rfl, HF.out.trans ((Dr.refl _).drewN _).fr⟩
   rcases h5 with h5 | h5 | h5
   iterate 2
    ·have HB := Hdq (HB2.out (fun h => by have : 0 <= p.ret /\ p.ret <= 5 := h.2.2.2; omega))
     clear HB2 HB3 HI2
     go_wp2
     go_quiet (fail)
     go_wp2
     exact bodyPost_ret (results_tmp3 rfl _ _ _) rfl ⟨_, _, by rw [HB.out]; rfl, HF.out.trans ((Dr.refl _).drewN _).fr⟩
   have HB := Hdq (HB3.out ⟨HI2.out.2 h2, h3, h4, h5⟩)
   clear HB2 HB3 HI2
   go_wp2
   exact bodyPost_ret (results_tmp3 rfl _ _ _) rfl ⟨_, _, by rw [HB.out]; rfl, HF.out⟩
end Go.Proofs.YtnafknkchbfpaaaGreatDoor
