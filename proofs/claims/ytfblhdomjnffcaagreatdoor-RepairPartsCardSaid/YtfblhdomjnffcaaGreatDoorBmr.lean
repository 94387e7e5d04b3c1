/-
  Layer 4: drawn regions of the register. (printed by genbm.py)
-/
import Derived.Test.YtfblhdomjnffcaaGreatDoorGB
import Derived.Test.YtfblhdomjnffcaaGreatDoorPsh
namespace Go.Proofs.YtfblhdomjnffcaaGreatDoor
open Go.RowKit Go.Bl
set_option linter.unusedVariables false
set_option maxRecDepth 100000 in
theorem frame51 (a : Go.Act) (hs : a.tmps.size = 51) (hd : a.defers = []) : a = ⟨(slot a 0 :: slot a 1 :: slot a 2 :: slot a 3 :: slot a 4 :: slot a 5 :: slot a 6 :: slot a 7 :: slot a 8 :: slot a 9 :: slot a 10 :: slot a 11 :: slot a 12 :: slot a 13 :: slot a 14 :: slot a 15 :: slot a 16 :: slot a 17 :: slot a 18 :: slot a 19 :: slot a 20 :: slot a 21 :: slot a 22 :: slot a 23 :: slot a 24 :: slot a 25 :: slot a 26 :: slot a 27 :: slot a 28 :: slot a 29 :: slot a 30 :: slot a 31 :: slot a 32 :: slot a 33 :: slot a 34 :: slot a 35 :: slot a 36 :: slot a 37 :: slot a 38 :: slot a 39 :: slot a 40 :: slot a 41 :: slot a 42 :: slot a 43 :: slot a 44 :: slot a 45 :: slot a 46 :: slot a 47 :: slot a 48 :: slot a 49 :: slot a 50 :: []).toArray, []⟩ := frameX a 51 hs hd
set_option maxRecDepth 100000 in
theorem frame94 (a : Go.Act) (hs : a.tmps.size = 94) (hd : a.defers = []) : a = ⟨(slot a 0 :: slot a 1 :: slot a 2 :: slot a 3 :: slot a 4 :: slot a 5 :: slot a 6 :: slot a 7 :: slot a 8 :: slot a 9 :: slot a 10 :: slot a 11 :: slot a 12 :: slot a 13 :: slot a 14 :: slot a 15 :: slot a 16 :: slot a 17 :: slot a 18 :: slot a 19 :: slot a 20 :: slot a 21 :: slot a 22 :: slot a 23 :: slot a 24 :: slot a 25 :: slot a 26 :: slot a 27 :: slot a 28 :: slot a 29 :: slot a 30 :: slot a 31 :: slot a 32 :: slot a 33 :: slot a 34 :: slot a 35 :: slot a 36 :: slot a 37 :: slot a 38 :: slot a 39 :: slot a 40 :: slot a 41 :: slot a 42 :: slot a 43 :: slot a 44 :: slot a 45 :: slot a 46 :: slot a 47 :: slot a 48 :: slot a 49 :: slot a 50 :: slot a 51 :: slot a 52 :: slot a 53 :: slot a 54 :: slot a 55 :: slot a 56 :: slot a 57 :: slot a 58 :: slot a 59 :: slot a 60 :: slot a 61 :: slot a 62 :: slot a 63 :: slot a 64 :: slot a 65 :: slot a 66 :: slot a 67 :: slot a 68 :: slot a 69 :: slot a 70 :: slot a 71 :: slot a 72 :: slot a 73 :: slot a 74 :: slot a 75 :: slot a 76 :: slot a 77 :: slot a 78 :: slot a 79 :: slot a 80 :: slot a 81 :: slot a 82 :: slot a 83 :: slot a 84 :: slot a 85 :: slot a 86 :: slot a 87 :: slot a 88 :: slot a 89 :: slot a 90 :: slot a 91 :: slot a 92 :: slot a 93 :: []).toArray, []⟩ := frameX a 94 hs hd
set_option maxRecDepth 100000 in
theorem frame30 (a : Go.Act) (hs : a.tmps.size = 30) (hd : a.defers = []) : a = ⟨(slot a 0 :: slot a 1 :: slot a 2 :: slot a 3 :: slot a 4 :: slot a 5 :: slot a 6 :: slot a 7 :: slot a 8 :: slot a 9 :: slot a 10 :: slot a 11 :: slot a 12 :: slot a 13 :: slot a 14 :: slot a 15 :: slot a 16 :: slot a 17 :: slot a 18 :: slot a 19 :: slot a 20 :: slot a 21 :: slot a 22 :: slot a 23 :: slot a 24 :: slot a 25 :: slot a 26 :: slot a 27 :: slot a 28 :: slot a 29 :: []).toArray, []⟩ := frameX a 30 hs hd

noncomputable def gap_regR : Code := ((Tryz.f98.body.bind (findRegionC 5)).getD .skip)
set_option maxRecDepth 1000000 in
set_option maxHeartbeats 8000000 in
theorem gap_reg (w : World) (a : Go.Act) (hsz : a.tmps.size = 51) (rb tb nb no nl nc sb so sn sc i j : Nat) (oa : Option Addr) (on oc long since : Nat) (d x y gapv : UInt8) (hR : At w rb (.cells #[.pointer (some ⟨tb, 0, none⟩), .slice (some ⟨nb, no, none⟩) nl nc, .int .i64 (long : Int), .slice oa on oc, .int .u8 (gapv.toNat : Int), .int .i64 (since : Int)] 144)) (hT : At w tb (.cells tabF 126)) (hjn : j < nl) (hji : j ≤ i) (his : i < sn) (hbd : sn ≤ 1000000) (hx : w.cell? ⟨nb, no + j, none⟩ = some (.int .u8 (x.toNat : Int))) (hy : w.cell? ⟨sb, so + (i - j), none⟩ = some (.int .u8 (y.toNat : Int))) (h7 : slot a 7 = .int .u8 (d.toNat : Int)) (h0 : slot a 0 = .pointer (some ⟨rb, 0, none⟩)) (h8 : slot a 8 = .int .i64 (j : Int)) (h1 : slot a 1 = .slice (some ⟨sb, so, none⟩) sn sc) (h2 : slot a 2 = .int .i64 (i : Int)) (Q : Exit → Go.Act → World → Prop)
    (hQ : ∀ (b : Go.Act) (p : World), b.defers = a.defers → b.tmps.size = 51 → (∀ s, s ∉ ([30, 31, 32, 33, 34, 35, 36, 37, 38, 39, 40, 41, 42, 43, 44, 45, 46, 47, 48, 49, 7] : List Nat) → slot b s = slot a s) → slot b 7 = .int .u8 ((d ^^^ gmul x y).toNat : Int) → Fr [] w p → Q .normal b p) : Code.wp Tryz.prog gap_regR Q a w := by
  conv => arg 2; whnf
  refine wp_region_ghost (by kernel_rfl) (by kernel_rfl) [some 30, some 31, some 32, some 33, some 34, some 35, some 36, some 37, some 38, some 39, some 40, some 41, some 42, some 43, some 44, some 45, some 46, some 47, some 48, some 49, some 7] [18] [.rd (.int .u8 (d.toNat : Int)) 1, .rd (.pointer (some ⟨rb, 0, none⟩)) 1, .rd (.pointer (some ⟨rb, 0, none⟩)) 1, .rd (.pointer (some ⟨rb, 0, none⟩)) 1, .rd (.pointer (some ⟨tb, 0, none⟩)) 1, .rd (.pointer (some ⟨rb, 0, none⟩)) 1, .rd (.pointer (some ⟨rb, 0, none⟩)) 1, .rd (.pointer (some ⟨rb, 1, none⟩)) 1, .rd (.slice (some ⟨nb, no, none⟩) nl nc) 1, .rd (.int .i64 (j : Int)) 1, .rd (.pointer (some ⟨nb, no + j, none⟩)) 1, .rd (.int .u8 (x.toNat : Int)) 1, .rd (.slice (some ⟨sb, so, none⟩) sn sc) 1, .rd (.int .i64 (i : Int)) 1, .rd (.int .i64 (j : Int)) 1, .rd (.int .i64 ((i - j : Nat) : Int)) 1, .rd (.pointer (some ⟨sb, so + (i - j), none⟩)) 1, .rd (.int .u8 (y.toNat : Int)) 1, .st 0, .rd (.int .u8 ((d ^^^ gmul x y).toNat : Int)) 1, .rd (.int .u8 ((d ^^^ gmul x y).toNat : Int)) 1] (fun cj => if cj = 0 then (.int .u8 ((gmul x y).toNat : Int)) else undef) (fun s g p => Fr [] w p) (by kernel_rfl) (by rfl) (by rw [hsz]; rfl) (by kernel_rfl) (by kernel_rfl) (by decide) ?_ ⟨?_, ?_, ?_, ?_, ?_, ?_, ?_, ?_, ?_, ?_, ?_, ?_, ?_, ?_, ?_, ?_, ?_, ?_, ?_, ?_, ?_, trivial⟩ ?_
  · intro w1 hw1
    exact ⟨fun _ => undef, hw1⟩
  · refine ⟨⟨30, rfl⟩, .inl rfl, fun b p s g hs hlow hS h => ?_⟩
    have e0 := (show b.eval (.tmp 7) = .int .u8 (d.toNat : Int) from (h.un 20 7 (by kernel_rfl) rfl).trans h7)
    have ec : ∀ v, b.eval (.const v) = v := fun _ => rfl
    refine ⟨_, by simp only [List.getElem?_toArray, List.getElem?_cons_succ, List.getElem?_cons_zero]; rfl, .inl ⟨(wanted_none rfl), ?_⟩⟩
    obtain ⟨ρ, hρ⟩ : ∃ ρ, b.eval = ρ := ⟨_, rfl⟩
    rw [hρ] at e0 ec ⊢
    unfold execOp; simp [go_sem, e0, ec]
  · refine ⟨⟨31, rfl⟩, .inl rfl, fun b p s g hs hlow hS h => ?_⟩
    have e0 := (show b.eval (.tmp 0) = .pointer (some ⟨rb, 0, none⟩) from (h.old 0 (by decide)).trans h0)
    have ec : ∀ v, b.eval (.const v) = v := fun _ => rfl
    refine ⟨_, by simp only [List.getElem?_toArray, List.getElem?_cons_succ, List.getElem?_cons_zero]; rfl, .inl ⟨(wanted_none rfl), ?_⟩⟩
    obtain ⟨ρ, hρ⟩ : ∃ ρ, b.eval = ρ := ⟨_, rfl⟩
    rw [hρ] at e0 ec ⊢
    unfold execOp; simp [go_sem, e0, ec]
  · refine ⟨⟨32, rfl⟩, .inl rfl, fun b p s g hs hlow hS h => ?_⟩
    have e0 := (show b.eval (.tmp 31) = .pointer (some ⟨rb, 0, none⟩) from h.rd 1 _ _ 31 (by kernel_rfl) rfl rfl)
    have ec : ∀ v, b.eval (.const v) = v := fun _ => rfl
    refine ⟨_, by simp only [List.getElem?_toArray, List.getElem?_cons_succ, List.getElem?_cons_zero]; rfl, .inl ⟨(wanted_none rfl), ?_⟩⟩
    obtain ⟨ρ, hρ⟩ : ∃ ρ, b.eval = ρ := ⟨_, rfl⟩
    rw [hρ] at e0 ec ⊢
    unfold execOp; simp [go_sem, e0, ec]
  · refine ⟨⟨33, rfl⟩, .inl rfl, fun b p s g hs hlow hS h => ?_⟩
    have e0 := (show b.eval (.tmp 32) = .pointer (some ⟨rb, 0, none⟩) from h.rd 2 _ _ 32 (by kernel_rfl) rfl rfl)
    have ec : ∀ v, b.eval (.const v) = v := fun _ => rfl
    refine ⟨_, by simp only [List.getElem?_toArray, List.getElem?_cons_succ, List.getElem?_cons_zero]; rfl, .inl ⟨(wanted_none rfl), ?_⟩⟩
    obtain ⟨ρ, hρ⟩ : ∃ ρ, b.eval = ρ := ⟨_, rfl⟩
    rw [hρ] at e0 ec ⊢
    unfold execOp; simp [go_sem, e0, ec]
  · refine ⟨⟨34, rfl⟩, .inl rfl, fun b p s g hs hlow hS h => ?_⟩
    have e0 := (show b.eval (.tmp 33) = .pointer (some ⟨rb, 0, none⟩) from h.rd 3 _ _ 33 (by kernel_rfl) rfl rfl)
    have hf := hS
    have c0 := (show p.cell? ⟨rb, 0, none⟩ = some (.pointer (some ⟨tb, 0, none⟩)) from ((hR.keep0 hf).cell 0))
    have ec : ∀ v, b.eval (.const v) = v := fun _ => rfl
    refine ⟨_, by simp only [List.getElem?_toArray, List.getElem?_cons_succ, List.getElem?_cons_zero]; rfl, .inl ⟨(wanted_none rfl), ?_⟩⟩
    obtain ⟨ρ, hρ⟩ : ∃ ρ, b.eval = ρ := ⟨_, rfl⟩
    rw [hρ] at e0 ec ⊢
    unfold execOp; simp [go_sem, e0, ec, c0]
  · refine ⟨⟨35, rfl⟩, .inl rfl, fun b p s g hs hlow hS h => ?_⟩
    have e0 := (show b.eval (.tmp 0) = .pointer (some ⟨rb, 0, none⟩) from (h.old 0 (by decide)).trans h0)
    have ec : ∀ v, b.eval (.const v) = v := fun _ => rfl
    refine ⟨_, by simp only [List.getElem?_toArray, List.getElem?_cons_succ, List.getElem?_cons_zero]; rfl, .inl ⟨(wanted_none rfl), ?_⟩⟩
    obtain ⟨ρ, hρ⟩ : ∃ ρ, b.eval = ρ := ⟨_, rfl⟩
    rw [hρ] at e0 ec ⊢
    unfold execOp; simp [go_sem, e0, ec]
  · refine ⟨⟨36, rfl⟩, .inl rfl, fun b p s g hs hlow hS h => ?_⟩
    have e0 := (show b.eval (.tmp 35) = .pointer (some ⟨rb, 0, none⟩) from h.rd 5 _ _ 35 (by kernel_rfl) rfl rfl)
    have ec : ∀ v, b.eval (.const v) = v := fun _ => rfl
    refine ⟨_, by simp only [List.getElem?_toArray, List.getElem?_cons_succ, List.getElem?_cons_zero]; rfl, .inl ⟨(wanted_none rfl), ?_⟩⟩
    obtain ⟨ρ, hρ⟩ : ∃ ρ, b.eval = ρ := ⟨_, rfl⟩
    rw [hρ] at e0 ec ⊢
    unfold execOp; simp [go_sem, e0, ec]
  · refine ⟨⟨37, rfl⟩, .inl rfl, fun b p s g hs hlow hS h => ?_⟩
    have e0 := (show b.eval (.tmp 36) = .pointer (some ⟨rb, 0, none⟩) from h.rd 6 _ _ 36 (by kernel_rfl) rfl rfl)
    have ec : ∀ v, b.eval (.const v) = v := fun _ => rfl
    refine ⟨_, by simp only [List.getElem?_toArray, List.getElem?_cons_succ, List.getElem?_cons_zero]; rfl, .inl ⟨(wanted_none rfl), ?_⟩⟩
    obtain ⟨ρ, hρ⟩ : ∃ ρ, b.eval = ρ := ⟨_, rfl⟩
    rw [hρ] at e0 ec ⊢
    unfold execOp; simp [go_sem, e0, ec]
  · refine ⟨⟨38, rfl⟩, .inl rfl, fun b p s g hs hlow hS h => ?_⟩
    have e0 := (show b.eval (.tmp 37) = .pointer (some ⟨rb, 1, none⟩) from h.rd 7 _ _ 37 (by kernel_rfl) rfl rfl)
    have hf := hS
    have c0 := (show p.cell? ⟨rb, 1, none⟩ = some (.slice (some ⟨nb, no, none⟩) nl nc) from ((hR.keep0 hf).cell 1))
    have ec : ∀ v, b.eval (.const v) = v := fun _ => rfl
    refine ⟨_, by simp only [List.getElem?_toArray, List.getElem?_cons_succ, List.getElem?_cons_zero]; rfl, .inl ⟨(wanted_none rfl), ?_⟩⟩
    obtain ⟨ρ, hρ⟩ : ∃ ρ, b.eval = ρ := ⟨_, rfl⟩
    rw [hρ] at e0 ec ⊢
    unfold execOp; simp [go_sem, e0, ec, c0]
  · refine ⟨⟨39, rfl⟩, .inl rfl, fun b p s g hs hlow hS h => ?_⟩
    have e0 := (show b.eval (.tmp 8) = .int .i64 (j : Int) from (h.old 8 (by decide)).trans h8)
    have ec : ∀ v, b.eval (.const v) = v := fun _ => rfl
    refine ⟨_, by simp only [List.getElem?_toArray, List.getElem?_cons_succ, List.getElem?_cons_zero]; rfl, .inl ⟨(wanted_none rfl), ?_⟩⟩
    obtain ⟨ρ, hρ⟩ : ∃ ρ, b.eval = ρ := ⟨_, rfl⟩
    rw [hρ] at e0 ec ⊢
    unfold execOp; simp [go_sem, e0, ec]
  · refine ⟨⟨40, rfl⟩, .inl rfl, fun b p s g hs hlow hS h => ?_⟩
    have e0 := (show b.eval (.tmp 38) = .slice (some ⟨nb, no, none⟩) nl nc from h.rd 8 _ _ 38 (by kernel_rfl) rfl rfl)
    have e1 := (show b.eval (.tmp 39) = .int .i64 (j : Int) from h.rd 9 _ _ 39 (by kernel_rfl) rfl rfl)
    have ec : ∀ v, b.eval (.const v) = v := fun _ => rfl
    refine ⟨_, by simp only [List.getElem?_toArray, List.getElem?_cons_succ, List.getElem?_cons_zero]; rfl, .inl ⟨(wanted_none rfl), ?_⟩⟩
    obtain ⟨ρ, hρ⟩ : ∃ ρ, b.eval = ρ := ⟨_, rfl⟩
    rw [hρ] at e0 e1 ec ⊢
    unfold execOp; simp [go_sem, e0, e1, ec, hjn, show (j : Int) < nl by omega]
  · refine ⟨⟨41, rfl⟩, .inl rfl, fun b p s g hs hlow hS h => ?_⟩
    have e0 := (show b.eval (.tmp 40) = .pointer (some ⟨nb, no + j, none⟩) from h.rd 10 _ _ 40 (by kernel_rfl) rfl rfl)
    have hf := hS
    have c0 := (show p.cell? ⟨nb, no + j, none⟩ = some (.int .u8 (x.toNat : Int)) from (cell_mono hf hx))
    have ec : ∀ v, b.eval (.const v) = v := fun _ => rfl
    refine ⟨_, by simp only [List.getElem?_toArray, List.getElem?_cons_succ, List.getElem?_cons_zero]; rfl, .inl ⟨(wanted_none rfl), ?_⟩⟩
    obtain ⟨ρ, hρ⟩ : ∃ ρ, b.eval = ρ := ⟨_, rfl⟩
    rw [hρ] at e0 ec ⊢
    unfold execOp; simp [go_sem, e0, ec, c0]
  · refine ⟨⟨42, rfl⟩, .inl rfl, fun b p s g hs hlow hS h => ?_⟩
    have e0 := (show b.eval (.tmp 1) = .slice (some ⟨sb, so, none⟩) sn sc from (h.old 1 (by decide)).trans h1)
    have ec : ∀ v, b.eval (.const v) = v := fun _ => rfl
    refine ⟨_, by simp only [List.getElem?_toArray, List.getElem?_cons_succ, List.getElem?_cons_zero]; rfl, .inl ⟨(wanted_none rfl), ?_⟩⟩
    obtain ⟨ρ, hρ⟩ : ∃ ρ, b.eval = ρ := ⟨_, rfl⟩
    rw [hρ] at e0 ec ⊢
    unfold execOp; simp [go_sem, e0, ec]
  · refine ⟨⟨43, rfl⟩, .inl rfl, fun b p s g hs hlow hS h => ?_⟩
    have e0 := (show b.eval (.tmp 2) = .int .i64 (i : Int) from (h.old 2 (by decide)).trans h2)
    have ec : ∀ v, b.eval (.const v) = v := fun _ => rfl
    refine ⟨_, by simp only [List.getElem?_toArray, List.getElem?_cons_succ, List.getElem?_cons_zero]; rfl, .inl ⟨(wanted_none rfl), ?_⟩⟩
    obtain ⟨ρ, hρ⟩ : ∃ ρ, b.eval = ρ := ⟨_, rfl⟩
    rw [hρ] at e0 ec ⊢
    unfold execOp; simp [go_sem, e0, ec]
  · refine ⟨⟨44, rfl⟩, .inl rfl, fun b p s g hs hlow hS h => ?_⟩
    have e0 := (show b.eval (.tmp 8) = .int .i64 (j : Int) from (h.old 8 (by decide)).trans h8)
    have ec : ∀ v, b.eval (.const v) = v := fun _ => rfl
    refine ⟨_, by simp only [List.getElem?_toArray, List.getElem?_cons_succ, List.getElem?_cons_zero]; rfl, .inl ⟨(wanted_none rfl), ?_⟩⟩
    obtain ⟨ρ, hρ⟩ : ∃ ρ, b.eval = ρ := ⟨_, rfl⟩
    rw [hρ] at e0 ec ⊢
    unfold execOp; simp [go_sem, e0, ec]
  · refine ⟨⟨45, rfl⟩, .inl rfl, fun b p s g hs hlow hS h => ?_⟩
    have e0 := (show b.eval (.tmp 43) = .int .i64 (i : Int) from h.rd 13 _ _ 43 (by kernel_rfl) rfl rfl)
    have e1 := (show b.eval (.tmp 44) = .int .i64 (j : Int) from h.rd 14 _ _ 44 (by kernel_rfl) rfl rfl)
    have ec : ∀ v, b.eval (.const v) = v := fun _ => rfl
    refine ⟨_, by simp only [List.getElem?_toArray, List.getElem?_cons_succ, List.getElem?_cons_zero]; rfl, .inl ⟨(wanted_none rfl), ?_⟩⟩
    obtain ⟨ρ, hρ⟩ : ∃ ρ, b.eval = ρ := ⟨_, rfl⟩
    rw [hρ] at e0 e1 ec ⊢
    unfold execOp; simp [go_sem, e0, e1, ec, show IntKind.i64.wrap ((i : Int) - j) = ((i - j : Nat) : Int) by rw [IntKind.wrap_i64]; omega]
  · refine ⟨⟨46, rfl⟩, .inl rfl, fun b p s g hs hlow hS h => ?_⟩
    have e0 := (show b.eval (.tmp 42) = .slice (some ⟨sb, so, none⟩) sn sc from h.rd 12 _ _ 42 (by kernel_rfl) rfl rfl)
    have e1 := (show b.eval (.tmp 45) = .int .i64 ((i - j : Nat) : Int) from h.rd 15 _ _ 45 (by kernel_rfl) rfl rfl)
    have ec : ∀ v, b.eval (.const v) = v := fun _ => rfl
    refine ⟨_, by simp only [List.getElem?_toArray, List.getElem?_cons_succ, List.getElem?_cons_zero]; rfl, .inl ⟨(wanted_none rfl), ?_⟩⟩
    obtain ⟨ρ, hρ⟩ : ∃ ρ, b.eval = ρ := ⟨_, rfl⟩
    rw [hρ] at e0 e1 ec ⊢
    unfold execOp; simp [go_sem, e0, e1, ec, show ((i - j : Nat) : Int) < sn by omega, show i - j < sn by omega]
  · refine ⟨⟨47, rfl⟩, .inl rfl, fun b p s g hs hlow hS h => ?_⟩
    have e0 := (show b.eval (.tmp 46) = .pointer (some ⟨sb, so + (i - j), none⟩) from h.rd 16 _ _ 46 (by kernel_rfl) rfl rfl)
    have hf := hS
    have c0 := (show p.cell? ⟨sb, so + (i - j), none⟩ = some (.int .u8 (y.toNat : Int)) from (cell_mono hf hy))
    have ec : ∀ v, b.eval (.const v) = v := fun _ => rfl
    refine ⟨_, by simp only [List.getElem?_toArray, List.getElem?_cons_succ, List.getElem?_cons_zero]; rfl, .inl ⟨(wanted_none rfl), ?_⟩⟩
    obtain ⟨ρ, hρ⟩ : ∃ ρ, b.eval = ρ := ⟨_, rfl⟩
    rw [hρ] at e0 ec ⊢
    unfold execOp; simp [go_sem, e0, ec, c0]
  · refine ⟨rfl, .inl rfl, fun b p g hS h => ?_⟩
    have e0 := (show b.eval (.tmp 34) = .pointer (some ⟨tb, 0, none⟩) from h.rd 4 _ _ 34 (by kernel_rfl) rfl rfl)
    have e1 := (show b.eval (.tmp 41) = .int .u8 (x.toNat : Int) from h.rd 11 _ _ 41 (by kernel_rfl) rfl rfl)
    have e2 := (show b.eval (.tmp 47) = .int .u8 (y.toNat : Int) from h.rd 17 _ _ 47 (by kernel_rfl) rfl rfl)
    have hf := hS
    refine opV_func _ (by simp only [List.getElem?_toArray, List.getElem?_cons_succ, List.getElem?_cons_zero]; rfl) (wanted_none rfl) 58 _ _ rfl #[.pointer (some ⟨tb, 0, none⟩), .int .u8 (x.toNat : Int), .int .u8 (y.toNat : Int)] (by simp only [List.map_toArray, List.map_cons, List.map_nil, e0, e1, e2]) (by simp [go_sem]) ((tmul_any p tb (hT.keep0 hf) x y).mono ?_)
    rintro e p' ⟨rfl, hf'⟩
    exact ⟨_, rfl, hf.trans hf', .inr rfl⟩
  · refine ⟨⟨49, rfl⟩, .inl rfl, fun b p s g hs hlow hS h => ?_⟩
    have e0 := (show b.eval (.tmp 30) = .int .u8 (d.toNat : Int) from h.rd 0 _ _ 30 (by kernel_rfl) rfl rfl)
    have e1 := (show b.eval (.tmp 48) = .int .u8 ((gmul x y).toNat : Int) from h.st 18 _ 48 (by kernel_rfl) rfl rfl)
    have ec : ∀ v, b.eval (.const v) = v := fun _ => rfl
    refine ⟨_, by simp only [List.getElem?_toArray, List.getElem?_cons_succ, List.getElem?_cons_zero]; rfl, .inl ⟨(wanted_none rfl), ?_⟩⟩
    obtain ⟨ρ, hρ⟩ : ∃ ρ, b.eval = ρ := ⟨_, rfl⟩
    rw [hρ] at e0 e1 ec ⊢
    unfold execOp; simp [go_sem, e0, e1, ec, u8_xor_u]
  · refine ⟨⟨7, rfl⟩, .inl rfl, fun b p s g hs hlow hS h => ?_⟩
    have e0 := (show b.eval (.tmp 49) = .int .u8 ((d ^^^ gmul x y).toNat : Int) from h.rd 19 _ _ 49 (by kernel_rfl) rfl rfl)
    have ec : ∀ v, b.eval (.const v) = v := fun _ => rfl
    refine ⟨_, by simp only [List.getElem?_toArray, List.getElem?_cons_succ, List.getElem?_cons_zero]; rfl, .inl ⟨(wanted_none rfl), ?_⟩⟩
    obtain ⟨ρ, hρ⟩ : ∃ ρ, b.eval = ρ := ⟨_, rfl⟩
    rw [hρ] at e0 ec ⊢
    unfold execOp; simp [go_sem, e0, ec]
  · intro b p h1 h2 h3 h4 h5
    obtain ⟨g, h4, h6⟩ := h4
    have r7 : slot b 7 = .int .u8 ((d ^^^ gmul x y).toNat : Int) := h5 20 (.int .u8 ((d ^^^ gmul x y).toNat : Int)) _ 7 rfl rfl
    exact hQ b p h1 (h2.trans hsz) (fun s hs => h3 s (fun hm => hs (by simpa using hm))) r7 h4

noncomputable def step_divR : Code := ((Tryz.f91.body.bind (findRegionC 3)).getD .skip)
set_option maxRecDepth 1000000 in
set_option maxHeartbeats 8000000 in
theorem step_div (w : World) (a : Go.Act) (hsz : a.tmps.size = 94) (rb tb nl nc on oc long since : Nat) (na oa : Option Addr) (d gapv : UInt8) (hR : At w rb (.cells #[.pointer (some ⟨tb, 0, none⟩), .slice na nl nc, .int .i64 (long : Int), .slice oa on oc, .int .u8 (gapv.toNat : Int), .int .i64 (since : Int)] 144)) (hT : At w tb (.cells tabF 126)) (h0 : slot a 0 = .pointer (some ⟨rb, 0, none⟩)) (h6 : slot a 6 = .int .u8 (d.toNat : Int)) (Q : Exit → Go.Act → World → Prop)
    (hQ : ∀ (b : Go.Act) (p : World), b.defers = a.defers → b.tmps.size = 94 → (∀ s, s ∉ ([22, 23, 24, 25, 26, 27, 28, 29, 30, 31, 7] : List Nat) → slot b s = slot a s) → slot b 7 = .int .u8 ((gmul d (ginv gapv)).toNat : Int) → Fr [] w p → Q .normal b p) : Code.wp Tryz.prog step_divR Q a w := by
  conv => arg 2; whnf
  refine wp_region_ghost (by kernel_rfl) (by kernel_rfl) [some 22, some 23, some 24, some 25, some 26, some 27, some 28, some 29, some 30, some 31, some 7] [9] [.rd (.pointer (some ⟨rb, 0, none⟩)) 1, .rd (.pointer (some ⟨rb, 0, none⟩)) 1, .rd (.pointer (some ⟨rb, 0, none⟩)) 1, .rd (.pointer (some ⟨tb, 0, none⟩)) 1, .rd (.int .u8 (d.toNat : Int)) 1, .rd (.pointer (some ⟨rb, 0, none⟩)) 1, .rd (.pointer (some ⟨rb, 0, none⟩)) 1, .rd (.pointer (some ⟨rb, 4, none⟩)) 1, .rd (.int .u8 (gapv.toNat : Int)) 1, .st 0, .rd (.int .u8 ((gmul d (ginv gapv)).toNat : Int)) 1] (fun cj => if cj = 0 then (.int .u8 ((gmul d (ginv gapv)).toNat : Int)) else undef) (fun s g p => Fr [] w p) (by kernel_rfl) (by rfl) (by rw [hsz]; rfl) (by kernel_rfl) (by kernel_rfl) (by decide) ?_ ⟨?_, ?_, ?_, ?_, ?_, ?_, ?_, ?_, ?_, ?_, ?_, trivial⟩ ?_
  · intro w1 hw1
    exact ⟨fun _ => undef, hw1⟩
  · refine ⟨⟨22, rfl⟩, .inl rfl, fun b p s g hs hlow hS h => ?_⟩
    have e0 := (show b.eval (.tmp 0) = .pointer (some ⟨rb, 0, none⟩) from (h.old 0 (by decide)).trans h0)
    have ec : ∀ v, b.eval (.const v) = v := fun _ => rfl
    refine ⟨_, by simp only [List.getElem?_toArray, List.getElem?_cons_succ, List.getElem?_cons_zero]; rfl, .inl ⟨(wanted_none rfl), ?_⟩⟩
    obtain ⟨ρ, hρ⟩ : ∃ ρ, b.eval = ρ := ⟨_, rfl⟩
    rw [hρ] at e0 ec ⊢
    unfold execOp; simp [go_sem, e0, ec]
  · refine ⟨⟨23, rfl⟩, .inl rfl, fun b p s g hs hlow hS h => ?_⟩
    have e0 := (show b.eval (.tmp 22) = .pointer (some ⟨rb, 0, none⟩) from h.rd 0 _ _ 22 (by kernel_rfl) rfl rfl)
    have ec : ∀ v, b.eval (.const v) = v := fun _ => rfl
    refine ⟨_, by simp only [List.getElem?_toArray, List.getElem?_cons_succ, List.getElem?_cons_zero]; rfl, .inl ⟨(wanted_none rfl), ?_⟩⟩
    obtain ⟨ρ, hρ⟩ : ∃ ρ, b.eval = ρ := ⟨_, rfl⟩
    rw [hρ] at e0 ec ⊢
    unfold execOp; simp [go_sem, e0, ec]
  · refine ⟨⟨24, rfl⟩, .inl rfl, fun b p s g hs hlow hS h => ?_⟩
    have e0 := (show b.eval (.tmp 23) = .pointer (some ⟨rb, 0, none⟩) from h.rd 1 _ _ 23 (by kernel_rfl) rfl rfl)
    have ec : ∀ v, b.eval (.const v) = v := fun _ => rfl
    refine ⟨_, by simp only [List.getElem?_toArray, List.getElem?_cons_succ, List.getElem?_cons_zero]; rfl, .inl ⟨(wanted_none rfl), ?_⟩⟩
    obtain ⟨ρ, hρ⟩ : ∃ ρ, b.eval = ρ := ⟨_, rfl⟩
    rw [hρ] at e0 ec ⊢
    unfold execOp; simp [go_sem, e0, ec]
  · refine ⟨⟨25, rfl⟩, .inl rfl, fun b p s g hs hlow hS h => ?_⟩
    have e0 := (show b.eval (.tmp 24) = .pointer (some ⟨rb, 0, none⟩) from h.rd 2 _ _ 24 (by kernel_rfl) rfl rfl)
    have hf := hS
    have c0 := (show p.cell? ⟨rb, 0, none⟩ = some (.pointer (some ⟨tb, 0, none⟩)) from ((hR.keep0 hf).cell 0))
    have ec : ∀ v, b.eval (.const v) = v := fun _ => rfl
    refine ⟨_, by simp only [List.getElem?_toArray, List.getElem?_cons_succ, List.getElem?_cons_zero]; rfl, .inl ⟨(wanted_none rfl), ?_⟩⟩
    obtain ⟨ρ, hρ⟩ : ∃ ρ, b.eval = ρ := ⟨_, rfl⟩
    rw [hρ] at e0 ec ⊢
    unfold execOp; simp [go_sem, e0, ec, c0]
  · refine ⟨⟨26, rfl⟩, .inl rfl, fun b p s g hs hlow hS h => ?_⟩
    have e0 := (show b.eval (.tmp 6) = .int .u8 (d.toNat : Int) from (h.old 6 (by decide)).trans h6)
    have ec : ∀ v, b.eval (.const v) = v := fun _ => rfl
    refine ⟨_, by simp only [List.getElem?_toArray, List.getElem?_cons_succ, List.getElem?_cons_zero]; rfl, .inl ⟨(wanted_none rfl), ?_⟩⟩
    obtain ⟨ρ, hρ⟩ : ∃ ρ, b.eval = ρ := ⟨_, rfl⟩
    rw [hρ] at e0 ec ⊢
    unfold execOp; simp [go_sem, e0, ec]
  · refine ⟨⟨27, rfl⟩, .inl rfl, fun b p s g hs hlow hS h => ?_⟩
    have e0 := (show b.eval (.tmp 0) = .pointer (some ⟨rb, 0, none⟩) from (h.old 0 (by decide)).trans h0)
    have ec : ∀ v, b.eval (.const v) = v := fun _ => rfl
    refine ⟨_, by simp only [List.getElem?_toArray, List.getElem?_cons_succ, List.getElem?_cons_zero]; rfl, .inl ⟨(wanted_none rfl), ?_⟩⟩
    obtain ⟨ρ, hρ⟩ : ∃ ρ, b.eval = ρ := ⟨_, rfl⟩
    rw [hρ] at e0 ec ⊢
    unfold execOp; simp [go_sem, e0, ec]
  · refine ⟨⟨28, rfl⟩, .inl rfl, fun b p s g hs hlow hS h => ?_⟩
    have e0 := (show b.eval (.tmp 27) = .pointer (some ⟨rb, 0, none⟩) from h.rd 5 _ _ 27 (by kernel_rfl) rfl rfl)
    have ec : ∀ v, b.eval (.const v) = v := fun _ => rfl
    refine ⟨_, by simp only [List.getElem?_toArray, List.getElem?_cons_succ, List.getElem?_cons_zero]; rfl, .inl ⟨(wanted_none rfl), ?_⟩⟩
    obtain ⟨ρ, hρ⟩ : ∃ ρ, b.eval = ρ := ⟨_, rfl⟩
    rw [hρ] at e0 ec ⊢
    unfold execOp; simp [go_sem, e0, ec]
  · refine ⟨⟨29, rfl⟩, .inl rfl, fun b p s g hs hlow hS h => ?_⟩
    have e0 := (show b.eval (.tmp 28) = .pointer (some ⟨rb, 0, none⟩) from h.rd 6 _ _ 28 (by kernel_rfl) rfl rfl)
    have ec : ∀ v, b.eval (.const v) = v := fun _ => rfl
    refine ⟨_, by simp only [List.getElem?_toArray, List.getElem?_cons_succ, List.getElem?_cons_zero]; rfl, .inl ⟨(wanted_none rfl), ?_⟩⟩
    obtain ⟨ρ, hρ⟩ : ∃ ρ, b.eval = ρ := ⟨_, rfl⟩
    rw [hρ] at e0 ec ⊢
    unfold execOp; simp [go_sem, e0, ec]
  · refine ⟨⟨30, rfl⟩, .inl rfl, fun b p s g hs hlow hS h => ?_⟩
    have e0 := (show b.eval (.tmp 29) = .pointer (some ⟨rb, 4, none⟩) from h.rd 7 _ _ 29 (by kernel_rfl) rfl rfl)
    have hf := hS
    have c0 := (show p.cell? ⟨rb, 4, none⟩ = some (.int .u8 (gapv.toNat : Int)) from ((hR.keep0 hf).cell 4))
    have ec : ∀ v, b.eval (.const v) = v := fun _ => rfl
    refine ⟨_, by simp only [List.getElem?_toArray, List.getElem?_cons_succ, List.getElem?_cons_zero]; rfl, .inl ⟨(wanted_none rfl), ?_⟩⟩
    obtain ⟨ρ, hρ⟩ : ∃ ρ, b.eval = ρ := ⟨_, rfl⟩
    rw [hρ] at e0 ec ⊢
    unfold execOp; simp [go_sem, e0, ec, c0]
  · refine ⟨rfl, .inl rfl, fun b p g hS h => ?_⟩
    have e0 := (show b.eval (.tmp 25) = .pointer (some ⟨tb, 0, none⟩) from h.rd 3 _ _ 25 (by kernel_rfl) rfl rfl)
    have e1 := (show b.eval (.tmp 26) = .int .u8 (d.toNat : Int) from h.rd 4 _ _ 26 (by kernel_rfl) rfl rfl)
    have e2 := (show b.eval (.tmp 30) = .int .u8 (gapv.toNat : Int) from h.rd 8 _ _ 30 (by kernel_rfl) rfl rfl)
    have hf := hS
    refine opV_func _ (by simp only [List.getElem?_toArray, List.getElem?_cons_succ, List.getElem?_cons_zero]; rfl) (wanted_none rfl) 99 _ _ rfl #[.pointer (some ⟨tb, 0, none⟩), .int .u8 (d.toNat : Int), .int .u8 (gapv.toNat : Int)] (by simp only [List.map_toArray, List.map_cons, List.map_nil, e0, e1, e2]) (by simp [go_sem]) ((tdiv_any p tb (hT.keep0 hf) d gapv).mono ?_)
    rintro e p' ⟨rfl, hf'⟩
    exact ⟨_, rfl, hf.trans hf', .inr rfl⟩
  · refine ⟨⟨7, rfl⟩, .inl rfl, fun b p s g hs hlow hS h => ?_⟩
    have e0 := (show b.eval (.tmp 31) = .int .u8 ((gmul d (ginv gapv)).toNat : Int) from h.st 9 _ 31 (by kernel_rfl) rfl rfl)
    have ec : ∀ v, b.eval (.const v) = v := fun _ => rfl
    refine ⟨_, by simp only [List.getElem?_toArray, List.getElem?_cons_succ, List.getElem?_cons_zero]; rfl, .inl ⟨(wanted_none rfl), ?_⟩⟩
    obtain ⟨ρ, hρ⟩ : ∃ ρ, b.eval = ρ := ⟨_, rfl⟩
    rw [hρ] at e0 ec ⊢
    unfold execOp; simp [go_sem, e0, ec]
  · intro b p h1 h2 h3 h4 h5
    obtain ⟨g, h4, h6⟩ := h4
    have r7 : slot b 7 = .int .u8 ((gmul d (ginv gapv)).toNat : Int) := h5 10 (.int .u8 ((gmul d (ginv gapv)).toNat : Int)) _ 7 rfl rfl
    exact hQ b p h1 (h2.trans hsz) (fun s hs => h3 s (fun hm => hs (by simpa using hm))) r7 h4

noncomputable def step_nextR : Code := ((Tryz.f91.body.bind (findRegionC 4)).getD .skip)
set_option maxRecDepth 1000000 in
set_option maxHeartbeats 8000000 in
theorem step_next (w : World) (a : Go.Act) (hsz : a.tmps.size = 94) (rb tb nl nc on oc long since : Nat) (na oa : Option Addr) (q gapv : UInt8) (ns os : List UInt8) (hR : At w rb (.cells #[.pointer (some ⟨tb, 0, none⟩), .slice na nl nc, .int .i64 (long : Int), .slice oa on oc, .int .u8 (gapv.toNat : Int), .int .i64 (since : Int)] 144)) (hn : Bs (fun _ => False) w (.slice na nl nc) ns) (ho : Bs (fun _ => False) w (.slice oa on oc) os) (hnl : ns.length ≤ 300) (hol : os.length ≤ 300) (hsi : since ≤ 300) (h0 : slot a 0 = .pointer (some ⟨rb, 0, none⟩)) (h7 : slot a 7 = .int .u8 (q.toNat : Int)) (Q : Exit → Go.Act → World → Prop)
    (hQ : ∀ (b : Go.Act) (p : World), b.defers = a.defers → b.tmps.size = 94 → (∀ s, s ∉ ([32, 33, 34, 35, 36, 37, 38, 39, 40, 41, 42, 43, 44, 45, 46, 47, 8] : List Nat) → slot b s = slot a s) → OwnB 5 w.heap.size p (slot b 8) (padd ns (pshift (pscale os q) since)) → Fr [] w p → Q .normal b p) : Code.wp Tryz.prog step_nextR Q a w := by
  conv => arg 2; whnf
  refine wp_region_ghost (by kernel_rfl) (by kernel_rfl) [some 32, some 33, some 34, some 35, some 36, some 37, some 38, some 39, some 40, some 41, some 42, some 43, some 44, some 45, some 46, some 47, some 8] [9, 14, 15] [.rd (.pointer (some ⟨rb, 0, none⟩)) 3, .rd (.pointer (some ⟨rb, 0, none⟩)) 3, .rd (.pointer (some ⟨rb, 1, none⟩)) 3, .rd (.slice na nl nc) 3, .rd (.pointer (some ⟨rb, 0, none⟩)) 3, .rd (.pointer (some ⟨rb, 0, none⟩)) 3, .rd (.pointer (some ⟨rb, 3, none⟩)) 3, .rd (.slice oa on oc) 3, .rd (.int .u8 (q.toNat : Int)) 3, .gh 0, .rd (.pointer (some ⟨rb, 0, none⟩)) 3, .rd (.pointer (some ⟨rb, 0, none⟩)) 3, .rd (.pointer (some ⟨rb, 5, none⟩)) 3, .rd (.int .i64 (since : Int)) 3, .gh 1, .gh 2, .mv 2] (fun cj => undef) (fun s g p => Fr [] w p ∧ (0 < s → OwnB 5 w.heap.size p (g 0) (pscale os q)) ∧ (1 < s → OwnB 5 w.heap.size p (g 1) (pshift (pscale os q) since)) ∧ (2 < s → OwnB 5 w.heap.size p (g 2) (padd ns (pshift (pscale os q) since)))) (by kernel_rfl) (by rfl) (by rw [hsz]; rfl) (by kernel_rfl) (by kernel_rfl) (by decide) ?_ ⟨?_, ?_, ?_, ?_, ?_, ?_, ?_, ?_, ?_, ?_, ?_, ?_, ?_, ?_, ?_, ?_, ?_, trivial⟩ ?_
  · intro w1 hw1
    exact ⟨fun _ => undef, ⟨hw1, fun hk => absurd hk (by decide), fun hk => absurd hk (by decide), fun hk => absurd hk (by decide)⟩⟩
  · refine ⟨⟨32, rfl⟩, .inl rfl, fun b p s g hs hlow hS h => ?_⟩
    have e0 := (show b.eval (.tmp 0) = .pointer (some ⟨rb, 0, none⟩) from (h.old 0 (by decide)).trans h0)
    have ec : ∀ v, b.eval (.const v) = v := fun _ => rfl
    refine ⟨_, by simp only [List.getElem?_toArray, List.getElem?_cons_succ, List.getElem?_cons_zero]; rfl, .inl ⟨(wanted_none rfl), ?_⟩⟩
    obtain ⟨ρ, hρ⟩ : ∃ ρ, b.eval = ρ := ⟨_, rfl⟩
    rw [hρ] at e0 ec ⊢
    unfold execOp; simp [go_sem, e0, ec]
  · refine ⟨⟨33, rfl⟩, .inl rfl, fun b p s g hs hlow hS h => ?_⟩
    have e0 := (show b.eval (.tmp 32) = .pointer (some ⟨rb, 0, none⟩) from h.rd 0 _ _ 32 (by kernel_rfl) rfl rfl)
    have ec : ∀ v, b.eval (.const v) = v := fun _ => rfl
    refine ⟨_, by simp only [List.getElem?_toArray, List.getElem?_cons_succ, List.getElem?_cons_zero]; rfl, .inl ⟨(wanted_none rfl), ?_⟩⟩
    obtain ⟨ρ, hρ⟩ : ∃ ρ, b.eval = ρ := ⟨_, rfl⟩
    rw [hρ] at e0 ec ⊢
    unfold execOp; simp [go_sem, e0, ec]
  · refine ⟨⟨34, rfl⟩, .inl rfl, fun b p s g hs hlow hS h => ?_⟩
    have e0 := (show b.eval (.tmp 33) = .pointer (some ⟨rb, 0, none⟩) from h.rd 1 _ _ 33 (by kernel_rfl) rfl rfl)
    have ec : ∀ v, b.eval (.const v) = v := fun _ => rfl
    refine ⟨_, by simp only [List.getElem?_toArray, List.getElem?_cons_succ, List.getElem?_cons_zero]; rfl, .inl ⟨(wanted_none rfl), ?_⟩⟩
    obtain ⟨ρ, hρ⟩ : ∃ ρ, b.eval = ρ := ⟨_, rfl⟩
    rw [hρ] at e0 ec ⊢
    unfold execOp; simp [go_sem, e0, ec]
  · refine ⟨⟨35, rfl⟩, .inl rfl, fun b p s g hs hlow hS h => ?_⟩
    have e0 := (show b.eval (.tmp 34) = .pointer (some ⟨rb, 1, none⟩) from h.rd 2 _ _ 34 (by kernel_rfl) rfl rfl)
    obtain ⟨hf, q0, q1, q2⟩ := hS
    have c0 := (show p.cell? ⟨rb, 1, none⟩ = some (.slice na nl nc) from ((hR.keep0 hf).cell 1))
    have ec : ∀ v, b.eval (.const v) = v := fun _ => rfl
    refine ⟨_, by simp only [List.getElem?_toArray, List.getElem?_cons_succ, List.getElem?_cons_zero]; rfl, .inl ⟨(wanted_none rfl), ?_⟩⟩
    obtain ⟨ρ, hρ⟩ : ∃ ρ, b.eval = ρ := ⟨_, rfl⟩
    rw [hρ] at e0 ec ⊢
    unfold execOp; simp [go_sem, e0, ec, c0]
  · refine ⟨⟨36, rfl⟩, .inl rfl, fun b p s g hs hlow hS h => ?_⟩
    have e0 := (show b.eval (.tmp 0) = .pointer (some ⟨rb, 0, none⟩) from (h.old 0 (by decide)).trans h0)
    have ec : ∀ v, b.eval (.const v) = v := fun _ => rfl
    refine ⟨_, by simp only [List.getElem?_toArray, List.getElem?_cons_succ, List.getElem?_cons_zero]; rfl, .inl ⟨(wanted_none rfl), ?_⟩⟩
    obtain ⟨ρ, hρ⟩ : ∃ ρ, b.eval = ρ := ⟨_, rfl⟩
    rw [hρ] at e0 ec ⊢
    unfold execOp; simp [go_sem, e0, ec]
  · refine ⟨⟨37, rfl⟩, .inl rfl, fun b p s g hs hlow hS h => ?_⟩
    have e0 := (show b.eval (.tmp 36) = .pointer (some ⟨rb, 0, none⟩) from h.rd 4 _ _ 36 (by kernel_rfl) rfl rfl)
    have ec : ∀ v, b.eval (.const v) = v := fun _ => rfl
    refine ⟨_, by simp only [List.getElem?_toArray, List.getElem?_cons_succ, List.getElem?_cons_zero]; rfl, .inl ⟨(wanted_none rfl), ?_⟩⟩
    obtain ⟨ρ, hρ⟩ : ∃ ρ, b.eval = ρ := ⟨_, rfl⟩
    rw [hρ] at e0 ec ⊢
    unfold execOp; simp [go_sem, e0, ec]
  · refine ⟨⟨38, rfl⟩, .inl rfl, fun b p s g hs hlow hS h => ?_⟩
    have e0 := (show b.eval (.tmp 37) = .pointer (some ⟨rb, 0, none⟩) from h.rd 5 _ _ 37 (by kernel_rfl) rfl rfl)
    have ec : ∀ v, b.eval (.const v) = v := fun _ => rfl
    refine ⟨_, by simp only [List.getElem?_toArray, List.getElem?_cons_succ, List.getElem?_cons_zero]; rfl, .inl ⟨(wanted_none rfl), ?_⟩⟩
    obtain ⟨ρ, hρ⟩ : ∃ ρ, b.eval = ρ := ⟨_, rfl⟩
    rw [hρ] at e0 ec ⊢
    unfold execOp; simp [go_sem, e0, ec]
  · refine ⟨⟨39, rfl⟩, .inl rfl, fun b p s g hs hlow hS h => ?_⟩
    have e0 := (show b.eval (.tmp 38) = .pointer (some ⟨rb, 3, none⟩) from h.rd 6 _ _ 38 (by kernel_rfl) rfl rfl)
    obtain ⟨hf, q0, q1, q2⟩ := hS
    have c0 := (show p.cell? ⟨rb, 3, none⟩ = some (.slice oa on oc) from ((hR.keep0 hf).cell 3))
    have ec : ∀ v, b.eval (.const v) = v := fun _ => rfl
    refine ⟨_, by simp only [List.getElem?_toArray, List.getElem?_cons_succ, List.getElem?_cons_zero]; rfl, .inl ⟨(wanted_none rfl), ?_⟩⟩
    obtain ⟨ρ, hρ⟩ : ∃ ρ, b.eval = ρ := ⟨_, rfl⟩
    rw [hρ] at e0 ec ⊢
    unfold execOp; simp [go_sem, e0, ec, c0]
  · refine ⟨⟨40, rfl⟩, .inl rfl, fun b p s g hs hlow hS h => ?_⟩
    have e0 := (show b.eval (.tmp 7) = .int .u8 (q.toNat : Int) from (h.old 7 (by decide)).trans h7)
    have ec : ∀ v, b.eval (.const v) = v := fun _ => rfl
    refine ⟨_, by simp only [List.getElem?_toArray, List.getElem?_cons_succ, List.getElem?_cons_zero]; rfl, .inl ⟨(wanted_none rfl), ?_⟩⟩
    obtain ⟨ρ, hρ⟩ : ∃ ρ, b.eval = ρ := ⟨_, rfl⟩
    rw [hρ] at e0 ec ⊢
    unfold execOp; simp [go_sem, e0, ec]
  · refine ⟨rfl, .inl rfl, fun b p g hS h => ?_⟩
    have e0 := (show b.eval (.tmp 39) = .slice oa on oc from h.rd 7 _ _ 39 (by kernel_rfl) rfl rfl)
    have e1 := (show b.eval (.tmp 40) = .int .u8 (q.toNat : Int) from h.rd 8 _ _ 40 (by kernel_rfl) rfl rfl)
    obtain ⟨hf, q0, q1, q2⟩ := hS
    refine opV_func _ (by simp only [List.getElem?_toArray, List.getElem?_cons_succ, List.getElem?_cons_zero]; rfl) (wanted_none rfl) 102 _ _ rfl #[.slice oa on oc, .int .u8 (q.toNat : Int)] (by simp only [List.map_toArray, List.map_cons, List.map_nil, e0, e1]) (by simp [go_sem]) ((pscale_any (fun _ => False) p (.slice oa on oc) os q (ho.keep hf (by simp)) (by omega)).mono ?_)
    rintro e p' ⟨u, rfl, ho', hf'⟩
    exact ⟨_, rfl, ⟨hf.trans hf', fun _ => ho'.base hf.size, fun hk => absurd hk (by decide), fun hk => absurd hk (by decide)⟩⟩
  · refine ⟨⟨42, rfl⟩, .inl rfl, fun b p s g hs hlow hS h => ?_⟩
    have e0 := (show b.eval (.tmp 0) = .pointer (some ⟨rb, 0, none⟩) from (h.old 0 (by decide)).trans h0)
    have ec : ∀ v, b.eval (.const v) = v := fun _ => rfl
    refine ⟨_, by simp only [List.getElem?_toArray, List.getElem?_cons_succ, List.getElem?_cons_zero]; rfl, .inl ⟨(wanted_none rfl), ?_⟩⟩
    obtain ⟨ρ, hρ⟩ : ∃ ρ, b.eval = ρ := ⟨_, rfl⟩
    rw [hρ] at e0 ec ⊢
    unfold execOp; simp [go_sem, e0, ec]
  · refine ⟨⟨43, rfl⟩, .inl rfl, fun b p s g hs hlow hS h => ?_⟩
    have e0 := (show b.eval (.tmp 42) = .pointer (some ⟨rb, 0, none⟩) from h.rd 10 _ _ 42 (by kernel_rfl) rfl rfl)
    have ec : ∀ v, b.eval (.const v) = v := fun _ => rfl
    refine ⟨_, by simp only [List.getElem?_toArray, List.getElem?_cons_succ, List.getElem?_cons_zero]; rfl, .inl ⟨(wanted_none rfl), ?_⟩⟩
    obtain ⟨ρ, hρ⟩ : ∃ ρ, b.eval = ρ := ⟨_, rfl⟩
    rw [hρ] at e0 ec ⊢
    unfold execOp; simp [go_sem, e0, ec]
  · refine ⟨⟨44, rfl⟩, .inl rfl, fun b p s g hs hlow hS h => ?_⟩
    have e0 := (show b.eval (.tmp 43) = .pointer (some ⟨rb, 0, none⟩) from h.rd 11 _ _ 43 (by kernel_rfl) rfl rfl)
    have ec : ∀ v, b.eval (.const v) = v := fun _ => rfl
    refine ⟨_, by simp only [List.getElem?_toArray, List.getElem?_cons_succ, List.getElem?_cons_zero]; rfl, .inl ⟨(wanted_none rfl), ?_⟩⟩
    obtain ⟨ρ, hρ⟩ : ∃ ρ, b.eval = ρ := ⟨_, rfl⟩
    rw [hρ] at e0 ec ⊢
    unfold execOp; simp [go_sem, e0, ec]
  · refine ⟨⟨45, rfl⟩, .inl rfl, fun b p s g hs hlow hS h => ?_⟩
    have e0 := (show b.eval (.tmp 44) = .pointer (some ⟨rb, 5, none⟩) from h.rd 12 _ _ 44 (by kernel_rfl) rfl rfl)
    obtain ⟨hf, q0, q1, q2⟩ := hS
    have c0 := (show p.cell? ⟨rb, 5, none⟩ = some (.int .i64 (since : Int)) from ((hR.keep0 hf).cell 5))
    have ec : ∀ v, b.eval (.const v) = v := fun _ => rfl
    refine ⟨_, by simp only [List.getElem?_toArray, List.getElem?_cons_succ, List.getElem?_cons_zero]; rfl, .inl ⟨(wanted_none rfl), ?_⟩⟩
    obtain ⟨ρ, hρ⟩ : ∃ ρ, b.eval = ρ := ⟨_, rfl⟩
    rw [hρ] at e0 ec ⊢
    unfold execOp; simp [go_sem, e0, ec, c0]
  · refine ⟨rfl, .inr ⟨9, rfl, by kernel_rfl⟩, fun b p g hS h => ?_⟩
    have e0 := (show b.eval (.tmp 41) = g 0 from h.gh 9 _ 41 (by kernel_rfl) rfl rfl)
    have e1 := (show b.eval (.tmp 45) = .int .i64 (since : Int) from h.rd 13 _ _ 45 (by kernel_rfl) rfl rfl)
    obtain ⟨hf, q0, q1, q2⟩ := hS
    refine opV_func _ (by simp only [List.getElem?_toArray, List.getElem?_cons_succ, List.getElem?_cons_zero]; rfl) (wanted_none rfl) 101 _ _ rfl #[g 0, .int .i64 (since : Int)] (by simp only [List.map_toArray, List.map_cons, List.map_nil, e0, e1]) (by simp [go_sem]) ((pshift_any (fun _ => False) p (g 0) (pscale os q) since (OwnB.bs (q0 (by decide)) (by simp)) (by have := pscale_len os q; omega) (by omega)).mono ?_)
    rintro e p' ⟨u, rfl, ho', hf'⟩
    exact ⟨_, rfl, ⟨hf.trans hf', fun _ => OwnB.keep (q0 (by decide)) hf' (by simp), fun _ => ho'.base hf.size, fun hk => absurd hk (by decide)⟩⟩
  · refine ⟨rfl, .inr ⟨14, rfl, by kernel_rfl⟩, fun b p g hS h => ?_⟩
    have e0 := (show b.eval (.tmp 35) = .slice na nl nc from h.rd 3 _ _ 35 (by kernel_rfl) rfl rfl)
    have e1 := (show b.eval (.tmp 46) = g 1 from h.gh 14 _ 46 (by kernel_rfl) rfl rfl)
    obtain ⟨hf, q0, q1, q2⟩ := hS
    refine opV_func _ (by simp only [List.getElem?_toArray, List.getElem?_cons_succ, List.getElem?_cons_zero]; rfl) (wanted_none rfl) 100 _ _ rfl #[.slice na nl nc, g 1] (by simp only [List.map_toArray, List.map_cons, List.map_nil, e0, e1]) (by simp [go_sem]) ((padd_any (fun _ => False) p (.slice na nl nc) (g 1) ns (pshift (pscale os q) since) (hn.keep hf (by simp)) (OwnB.bs (q1 (by decide)) (by simp)) (by omega) (by have := pscale_len os q; have := pshift_len (pscale os q) since; omega)).mono ?_)
    rintro e p' ⟨u, rfl, ho', hf'⟩
    exact ⟨_, rfl, ⟨hf.trans hf', fun _ => OwnB.keep (q0 (by decide)) hf' (by simp), fun _ => OwnB.keep (q1 (by decide)) hf' (by simp), fun _ => ho'.base hf.size⟩⟩
  · refine ⟨⟨8, rfl⟩, ⟨15, rfl, by kernel_rfl⟩, fun b p s g hlow hS h => ?_⟩
    have e0 := (show b.eval (.tmp 47) = g 2 from h.gh 15 _ 47 (by kernel_rfl) rfl rfl)
    refine ⟨_, by simp only [List.getElem?_toArray, List.getElem?_cons_succ, List.getElem?_cons_zero]; rfl, (wanted_none rfl), ?_⟩
    obtain ⟨ρ, hρ⟩ : ∃ ρ, b.eval = ρ := ⟨_, rfl⟩
    rw [hρ] at e0 ⊢
    unfold execOp; simp [go_sem, e0]
  · intro b p h1 h2 h3 h4 h5
    obtain ⟨g, h4, h6⟩ := h4
    obtain ⟨hf, q0, q1, q2⟩ := h4
    have g8 : slot b 8 = g 2 := h6 16 2 8 (.inr rfl) rfl
    exact hQ b p h1 (h2.trans hsz) (fun s hs => h3 s (fun hm => hs (by simpa using hm))) (by rw [g8]; exact q2 (by decide)) hf

noncomputable def reg_endR : Code := ((Tryz.f68.body.bind (findRegionC 7)).getD .skip)
set_option maxRecDepth 1000000 in
set_option maxHeartbeats 8000000 in
theorem reg_end (w : World) (a : Go.Act) (hsz : a.tmps.size = 30) (rb tb nl nc on oc long since : Nat) (na oa : Option Addr) (gapv : UInt8) (ns : List UInt8) (hR : At w rb (.cells #[.pointer (some ⟨tb, 0, none⟩), .slice na nl nc, .int .i64 (long : Int), .slice oa on oc, .int .u8 (gapv.toNat : Int), .int .i64 (since : Int)] 144)) (hn : Bs (fun _ => False) w (.slice na nl nc) ns) (hne : ns ≠ []) (hnl : ns.length ≤ 300) (h4 : slot a 4 = .pointer (some ⟨rb, 0, none⟩)) (Q : Exit → Go.Act → World → Prop)
    (hQ : ∀ (b : Go.Act) (p : World), b.defers = a.defers → b.tmps.size = 30 → (∀ s, s ∉ ([21, 22, 23, 24, 25, 26, 27, 28, 29, 2, 3] : List Nat) → slot b s = slot a s) → slot b 3 = .int .i64 (long : Int) → OwnB 5 w.heap.size p (slot b 2) (ptrim ns) → Fr [] w p → Q .normal b p) : Code.wp Tryz.prog reg_endR Q a w := by
  conv => arg 2; whnf
  refine wp_region_ghost (by kernel_rfl) (by kernel_rfl) [some 21, some 22, some 23, some 24, some 25, some 26, some 27, some 28, some 29, some 2, some 3] [4] [.rd (.pointer (some ⟨rb, 0, none⟩)) 1, .rd (.pointer (some ⟨rb, 0, none⟩)) 1, .rd (.pointer (some ⟨rb, 1, none⟩)) 1, .rd (.slice na nl nc) 1, .gh 0, .rd (.pointer (some ⟨rb, 0, none⟩)) 1, .rd (.pointer (some ⟨rb, 0, none⟩)) 1, .rd (.pointer (some ⟨rb, 2, none⟩)) 1, .rd (.int .i64 (long : Int)) 1, .mv 0, .rd (.int .i64 (long : Int)) 1] (fun cj => undef) (fun s g p => Fr [] w p ∧ (0 < s → OwnB 5 w.heap.size p (g 0) (ptrim ns))) (by kernel_rfl) (by rfl) (by rw [hsz]; rfl) (by kernel_rfl) (by kernel_rfl) (by decide) ?_ ⟨?_, ?_, ?_, ?_, ?_, ?_, ?_, ?_, ?_, ?_, ?_, trivial⟩ ?_
  · intro w1 hw1
    exact ⟨fun _ => undef, ⟨hw1, fun hk => absurd hk (by decide)⟩⟩
  · refine ⟨⟨21, rfl⟩, .inl rfl, fun b p s g hs hlow hS h => ?_⟩
    have e0 := (show b.eval (.tmp 4) = .pointer (some ⟨rb, 0, none⟩) from (h.old 4 (by decide)).trans h4)
    have ec : ∀ v, b.eval (.const v) = v := fun _ => rfl
    refine ⟨_, by simp only [List.getElem?_toArray, List.getElem?_cons_succ, List.getElem?_cons_zero]; rfl, .inl ⟨(wanted_none rfl), ?_⟩⟩
    obtain ⟨ρ, hρ⟩ : ∃ ρ, b.eval = ρ := ⟨_, rfl⟩
    rw [hρ] at e0 ec ⊢
    unfold execOp; simp [go_sem, e0, ec]
  · refine ⟨⟨22, rfl⟩, .inl rfl, fun b p s g hs hlow hS h => ?_⟩
    have e0 := (show b.eval (.tmp 21) = .pointer (some ⟨rb, 0, none⟩) from h.rd 0 _ _ 21 (by kernel_rfl) rfl rfl)
    have ec : ∀ v, b.eval (.const v) = v := fun _ => rfl
    refine ⟨_, by simp only [List.getElem?_toArray, List.getElem?_cons_succ, List.getElem?_cons_zero]; rfl, .inl ⟨(wanted_none rfl), ?_⟩⟩
    obtain ⟨ρ, hρ⟩ : ∃ ρ, b.eval = ρ := ⟨_, rfl⟩
    rw [hρ] at e0 ec ⊢
    unfold execOp; simp [go_sem, e0, ec]
  · refine ⟨⟨23, rfl⟩, .inl rfl, fun b p s g hs hlow hS h => ?_⟩
    have e0 := (show b.eval (.tmp 22) = .pointer (some ⟨rb, 0, none⟩) from h.rd 1 _ _ 22 (by kernel_rfl) rfl rfl)
    have ec : ∀ v, b.eval (.const v) = v := fun _ => rfl
    refine ⟨_, by simp only [List.getElem?_toArray, List.getElem?_cons_succ, List.getElem?_cons_zero]; rfl, .inl ⟨(wanted_none rfl), ?_⟩⟩
    obtain ⟨ρ, hρ⟩ : ∃ ρ, b.eval = ρ := ⟨_, rfl⟩
    rw [hρ] at e0 ec ⊢
    unfold execOp; simp [go_sem, e0, ec]
  · refine ⟨⟨24, rfl⟩, .inl rfl, fun b p s g hs hlow hS h => ?_⟩
    have e0 := (show b.eval (.tmp 23) = .pointer (some ⟨rb, 1, none⟩) from h.rd 2 _ _ 23 (by kernel_rfl) rfl rfl)
    obtain ⟨hf, q0⟩ := hS
    have c0 := (show p.cell? ⟨rb, 1, none⟩ = some (.slice na nl nc) from ((hR.keep0 hf).cell 1))
    have ec : ∀ v, b.eval (.const v) = v := fun _ => rfl
    refine ⟨_, by simp only [List.getElem?_toArray, List.getElem?_cons_succ, List.getElem?_cons_zero]; rfl, .inl ⟨(wanted_none rfl), ?_⟩⟩
    obtain ⟨ρ, hρ⟩ : ∃ ρ, b.eval = ρ := ⟨_, rfl⟩
    rw [hρ] at e0 ec ⊢
    unfold execOp; simp [go_sem, e0, ec, c0]
  · refine ⟨rfl, .inl rfl, fun b p g hS h => ?_⟩
    have e0 := (show b.eval (.tmp 24) = .slice na nl nc from h.rd 3 _ _ 24 (by kernel_rfl) rfl rfl)
    obtain ⟨hf, q0⟩ := hS
    refine opV_func _ (by simp only [List.getElem?_toArray, List.getElem?_cons_succ, List.getElem?_cons_zero]; rfl) (wanted_none rfl) 60 _ _ rfl #[.slice na nl nc] (by simp only [List.map_toArray, List.map_cons, List.map_nil, e0]) (by simp [go_sem]) ((trim_z (fun _ => False) p (.slice na nl nc) ns (hn.keep hf (by simp)) (bwI_of_bs (hn.keep hf (by simp)) hne) (by omega)).mono ?_)
    rintro e p' ⟨u, rfl, ho', hf'⟩
    exact ⟨_, rfl, ⟨hf.trans hf', fun _ => ho'.base hf.size⟩⟩
  · refine ⟨⟨26, rfl⟩, .inl rfl, fun b p s g hs hlow hS h => ?_⟩
    have e0 := (show b.eval (.tmp 4) = .pointer (some ⟨rb, 0, none⟩) from (h.old 4 (by decide)).trans h4)
    have ec : ∀ v, b.eval (.const v) = v := fun _ => rfl
    refine ⟨_, by simp only [List.getElem?_toArray, List.getElem?_cons_succ, List.getElem?_cons_zero]; rfl, .inl ⟨(wanted_none rfl), ?_⟩⟩
    obtain ⟨ρ, hρ⟩ : ∃ ρ, b.eval = ρ := ⟨_, rfl⟩
    rw [hρ] at e0 ec ⊢
    unfold execOp; simp [go_sem, e0, ec]
  · refine ⟨⟨27, rfl⟩, .inl rfl, fun b p s g hs hlow hS h => ?_⟩
    have e0 := (show b.eval (.tmp 26) = .pointer (some ⟨rb, 0, none⟩) from h.rd 5 _ _ 26 (by kernel_rfl) rfl rfl)
    have ec : ∀ v, b.eval (.const v) = v := fun _ => rfl
    refine ⟨_, by simp only [List.getElem?_toArray, List.getElem?_cons_succ, List.getElem?_cons_zero]; rfl, .inl ⟨(wanted_none rfl), ?_⟩⟩
    obtain ⟨ρ, hρ⟩ : ∃ ρ, b.eval = ρ := ⟨_, rfl⟩
    rw [hρ] at e0 ec ⊢
    unfold execOp; simp [go_sem, e0, ec]
  · refine ⟨⟨28, rfl⟩, .inl rfl, fun b p s g hs hlow hS h => ?_⟩
    have e0 := (show b.eval (.tmp 27) = .pointer (some ⟨rb, 0, none⟩) from h.rd 6 _ _ 27 (by kernel_rfl) rfl rfl)
    have ec : ∀ v, b.eval (.const v) = v := fun _ => rfl
    refine ⟨_, by simp only [List.getElem?_toArray, List.getElem?_cons_succ, List.getElem?_cons_zero]; rfl, .inl ⟨(wanted_none rfl), ?_⟩⟩
    obtain ⟨ρ, hρ⟩ : ∃ ρ, b.eval = ρ := ⟨_, rfl⟩
    rw [hρ] at e0 ec ⊢
    unfold execOp; simp [go_sem, e0, ec]
  · refine ⟨⟨29, rfl⟩, .inl rfl, fun b p s g hs hlow hS h => ?_⟩
    have e0 := (show b.eval (.tmp 28) = .pointer (some ⟨rb, 2, none⟩) from h.rd 7 _ _ 28 (by kernel_rfl) rfl rfl)
    obtain ⟨hf, q0⟩ := hS
    have c0 := (show p.cell? ⟨rb, 2, none⟩ = some (.int .i64 (long : Int)) from ((hR.keep0 hf).cell 2))
    have ec : ∀ v, b.eval (.const v) = v := fun _ => rfl
    refine ⟨_, by simp only [List.getElem?_toArray, List.getElem?_cons_succ, List.getElem?_cons_zero]; rfl, .inl ⟨(wanted_none rfl), ?_⟩⟩
    obtain ⟨ρ, hρ⟩ : ∃ ρ, b.eval = ρ := ⟨_, rfl⟩
    rw [hρ] at e0 ec ⊢
    unfold execOp; simp [go_sem, e0, ec, c0]
  · refine ⟨⟨2, rfl⟩, ⟨4, rfl, by kernel_rfl⟩, fun b p s g hlow hS h => ?_⟩
    have e0 := (show b.eval (.tmp 25) = g 0 from h.gh 4 _ 25 (by kernel_rfl) rfl rfl)
    refine ⟨_, by simp only [List.getElem?_toArray, List.getElem?_cons_succ, List.getElem?_cons_zero]; rfl, (wanted_none rfl), ?_⟩
    obtain ⟨ρ, hρ⟩ : ∃ ρ, b.eval = ρ := ⟨_, rfl⟩
    rw [hρ] at e0 ⊢
    unfold execOp; simp [go_sem, e0]
  · refine ⟨⟨3, rfl⟩, .inl rfl, fun b p s g hs hlow hS h => ?_⟩
    have e0 := (show b.eval (.tmp 29) = .int .i64 (long : Int) from h.rd 8 _ _ 29 (by kernel_rfl) rfl rfl)
    have ec : ∀ v, b.eval (.const v) = v := fun _ => rfl
    refine ⟨_, by simp only [List.getElem?_toArray, List.getElem?_cons_succ, List.getElem?_cons_zero]; rfl, .inl ⟨(wanted_none rfl), ?_⟩⟩
    obtain ⟨ρ, hρ⟩ : ∃ ρ, b.eval = ρ := ⟨_, rfl⟩
    rw [hρ] at e0 ec ⊢
    unfold execOp; simp [go_sem, e0, ec]
  · intro b p h1 h2 h3 h4 h5
    obtain ⟨g, h4, h6⟩ := h4
    have r3 : slot b 3 = .int .i64 (long : Int) := h5 10 (.int .i64 (long : Int)) _ 3 rfl rfl
    obtain ⟨hf, q0⟩ := h4
    have g2 : slot b 2 = g 0 := h6 9 0 2 (.inr rfl) rfl
    exact hQ b p h1 (h2.trans hsz) (fun s hs => h3 s (fun hm => hs (by simpa using hm))) r3 (by rw [g2]; exact q0 (by decide)) hf
end Go.Proofs.YtfblhdomjnffcaaGreatDoor
