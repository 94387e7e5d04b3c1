/-
  Layer 4: drawn regions of the register. (printed by genbm.py)
  Layer 4: the register's gap and step, and locate.Register.
-/
import Derived.Test.YtmohiblgfmdkjaaDoorGB
import Derived.Test.YtmohiblgfmdkjaaDoorJN
import Derived.Test.YtmohiblgfmdkjaaDoorGF
namespace Go.Proofs.YtmohiblgfmdkjaaDoor
open Go.RowKit Go.Bl
set_option linter.unusedVariables false
set_option maxRecDepth 100000 in
theorem frame51 (a : Go.Act) (hs : a.tmps.size = 51) (hd : a.defers = []) : a = ⟨(slot a 0 :: slot a 1 :: slot a 2 :: slot a 3 :: slot a 4 :: slot a 5 :: slot a 6 :: slot a 7 :: slot a 8 :: slot a 9 :: slot a 10 :: slot a 11 :: slot a 12 :: slot a 13 :: slot a 14 :: slot a 15 :: slot a 16 :: slot a 17 :: slot a 18 :: slot a 19 :: slot a 20 :: slot a 21 :: slot a 22 :: slot a 23 :: slot a 24 :: slot a 25 :: slot a 26 :: slot a 27 :: slot a 28 :: slot a 29 :: slot a 30 :: slot a 31 :: slot a 32 :: slot a 33 :: slot a 34 :: slot a 35 :: slot a 36 :: slot a 37 :: slot a 38 :: slot a 39 :: slot a 40 :: slot a 41 :: slot a 42 :: slot a 43 :: slot a 44 :: slot a 45 :: slot a 46 :: slot a 47 :: slot a 48 :: slot a 49 :: slot a 50 :: []).toArray, []⟩ := frameX a 51 hs hd
set_option maxRecDepth 100000 in
theorem frame94 (a : Go.Act) (hs : a.tmps.size = 94) (hd : a.defers = []) : a = ⟨(slot a 0 :: slot a 1 :: slot a 2 :: slot a 3 :: slot a 4 :: slot a 5 :: slot a 6 :: slot a 7 :: slot a 8 :: slot a 9 :: slot a 10 :: slot a 11 :: slot a 12 :: slot a 13 :: slot a 14 :: slot a 15 :: slot a 16 :: slot a 17 :: slot a 18 :: slot a 19 :: slot a 20 :: slot a 21 :: slot a 22 :: slot a 23 :: slot a 24 :: slot a 25 :: slot a 26 :: slot a 27 :: slot a 28 :: slot a 29 :: slot a 30 :: slot a 31 :: slot a 32 :: slot a 33 :: slot a 34 :: slot a 35 :: slot a 36 :: slot a 37 :: slot a 38 :: slot a 39 :: slot a 40 :: slot a 41 :: slot a 42 :: slot a 43 :: slot a 44 :: slot a 45 :: slot a 46 :: slot a 47 :: slot a 48 :: slot a 49 :: slot a 50 :: slot a 51 :: slot a 52 :: slot a 53 :: slot a 54 :: slot a 55 :: slot a 56 :: slot a 57 :: slot a 58 :: slot a 59 :: slot a 60 :: slot a 61 :: slot a 62 :: slot a 63 :: slot a 64 :: slot a 65 :: slot a 66 :: slot a 67 :: slot a 68 :: slot a 69 :: slot a 70 :: slot a 71 :: slot a 72 :: slot a 73 :: slot a 74 :: slot a 75 :: slot a 76 :: slot a 77 :: slot a 78 :: slot a 79 :: slot a 80 :: slot a 81 :: slot a 82 :: slot a 83 :: slot a 84 :: slot a 85 :: slot a 86 :: slot a 87 :: slot a 88 :: slot a 89 :: slot a 90 :: slot a 91 :: slot a 92 :: slot a 93 :: []).toArray, []⟩ := frameX a 94 hs hd
set_option maxRecDepth 100000 in
theorem frame30 (a : Go.Act) (hs : a.tmps.size = 30) (hd : a.defers = []) : a = ⟨(slot a 0 :: slot a 1 :: slot a 2 :: slot a 3 :: slot a 4 :: slot a 5 :: slot a 6 :: slot a 7 :: slot a 8 :: slot a 9 :: slot a 10 :: slot a 11 :: slot a 12 :: slot a 13 :: slot a 14 :: slot a 15 :: slot a 16 :: slot a 17 :: slot a 18 :: slot a 19 :: slot a 20 :: slot a 21 :: slot a 22 :: slot a 23 :: slot a 24 :: slot a 25 :: slot a 26 :: slot a 27 :: slot a 28 :: slot a 29 :: []).toArray, []⟩ := frameX a 30 hs hd

noncomputable def gap_regR : Code := ((Tryd.f130.body.bind (findRegionC 5)).getD .skip)
set_option maxRecDepth 1000000 in
set_option maxHeartbeats 8000000 in
theorem gap_reg (w : World) (a : Go.Act) (hsz : a.tmps.size = 51) (rb tb nb no nl nc sb so sn sc i j : Nat) (oa : Option Addr) (on oc long since : Nat) (d x y gapv : UInt8) (hR : At w rb (.cells #[.pointer (some ⟨tb, 0, none⟩), .slice (some ⟨nb, no, none⟩) nl nc, .int .i64 (long : Int), .slice oa on oc, .int .u8 (gapv.toNat : Int), .int .i64 (since : Int)] 196)) (hT : At w tb (.cells tabF 171)) (hjn : j < nl) (hji : j ≤ i) (his : i < sn) (hbd : sn ≤ 1000000) (hx : w.cell? ⟨nb, no + j, none⟩ = some (.int .u8 (x.toNat : Int))) (hy : w.cell? ⟨sb, so + (i - j), none⟩ = some (.int .u8 (y.toNat : Int))) (h7 : slot a 7 = .int .u8 (d.toNat : Int)) (h0 : slot a 0 = .pointer (some ⟨rb, 0, none⟩)) (h8 : slot a 8 = .int .i64 (j : Int)) (h1 : slot a 1 = .slice (some ⟨sb, so, none⟩) sn sc) (h2 : slot a 2 = .int .i64 (i : Int)) (Q : Exit → Go.Act → World → Prop)
    (hQ : ∀ (b : Go.Act) (p : World), b.defers = a.defers → b.tmps.size = 51 → (∀ s, s ∉ ([30, 31, 32, 33, 34, 35, 36, 37, 38, 39, 40, 41, 42, 43, 44, 45, 46, 47, 48, 49, 7] : List Nat) → slot b s = slot a s) → slot b 7 = .int .u8 ((d ^^^ gmul x y).toNat : Int) → Fr [] w p → Q .normal b p) : Code.wp Tryd.prog gap_regR Q a w := by
  conv => arg 2; whnf
  refine wp_region_ghost (by kernel_rfl) (by kernel_rfl) [some 30, some 31, some 32, some 33, some 34, some 35, some 36, some 37, some 38, some 39, some 40, some 41, some 42, some 43, some 44, some 45, some 46, some 47, some 48, some 49, some 7] [18] [.rd (.int .u8 (d.toNat : Int)) 1, .rd (.pointer (some ⟨rb, 0, none⟩)) 1, .rd (.pointer (some ⟨rb, 0, none⟩)) 1, .rd (.pointer (some ⟨rb, 0, none⟩)) 1, .rd (.pointer (some ⟨tb, 0, none⟩)) 1, .rd (.pointer (some ⟨rb, 0, none⟩)) 1, .rd (.pointer (some ⟨rb, 0, none⟩)) 1, .rd (.pointer (some ⟨rb, 1, none⟩)) 1, .rd (.slice (some ⟨nb, no, none⟩) nl nc) 1, .rd (.int .i64 (j : Int)) 1, .rd (.pointer (some ⟨nb, no + j, none⟩)) 1, .rd (.int .u8 (x.toNat : Int)) 1, .rd (.slice (some ⟨sb, so, none⟩) sn sc) 1, .rd (.int .i64 (i : Int)) 1, .rd (.int .i64 (j : Int)) 1, .rd (.int .i64 ((i - j : Nat) : Int)) 1, .rd (.pointer (some ⟨sb, so + (i - j), none⟩)) 1, .rd (.int .u8 (y.toNat : Int)) 1, .st 0, .rd (.int .u8 ((d ^^^ gmul x y).toNat : Int)) 1, .rd (.int .u8 ((d ^^^ gmul x y).toNat : Int)) 1] (fun cj => if cj = 0 then (.int .u8 ((gmul x y).toNat : Int)) else undef) (fun s g p => Fr [] w p) (by kernel_rfl) (by rfl) (by rw [hsz]; rfl) (by kernel_rfl) (by kernel_rfl) (by decide) ?_ ⟨?_, ?_, ?_, ?_, ?_, ?_, ?_, ?_, ?_, ?_, ?_, ?_, ?_, ?_, ?_, ?_, ?_, ?_, ?_, ?_, ?_, trivial⟩ ?_
  · intro w1 hw1
    exact ⟨fun _ => undef, hw1⟩
  · refine ⟨⟨30, rfl⟩, .inl rfl, fun b p s g hs hlow hS h => ?_⟩
    have e0 := (show b.eval (.tmp 7) = .int .u8 (d.toNat : Int) from (h.un 20 7 (by kernel_rfl) rfl).trans h7)
    have ec : ∀ v, b.eval (.const v) = v := fun _ => rfl
    refine ⟨_, by simp only [List.getElem?_toArray, List.getElem?_cons_succ, List.getElem?_cons_zero]; rfl, .inl ⟨(wanted_none rfl), ?_⟩⟩
    obtain ⟨ρ, hρ⟩ : ∃ ρ, b.eval = ρ := ⟨_, rfl⟩
    rw [hρ] at e0 ec ⊢
    unfold execOp; simp [go_sem, e0, ec]
  · refine ⟨⟨31, rfl⟩, .inl rfl, fun b p s g hs hlow hS h => ?_⟩
    have e0 := (show b.eval (.tmp 0) = .pointer (some ⟨rb, 0, none⟩) from (h.old 0 (by decide)).trans h0)
    have ec : ∀ v, b.eval (.const v) = v := fun _ => rfl
    refine ⟨_, by simp only [List.getElem?_toArray, List.getElem?_cons_succ, List.getElem?_cons_zero]; rfl, .inl ⟨(wanted_none rfl), ?_⟩⟩
    obtain ⟨ρ, hρ⟩ : ∃ ρ, b.eval = ρ := ⟨_, rfl⟩
    rw [hρ] at e0 ec ⊢
    unfold execOp; simp [go_sem, e0, ec]
  · refine ⟨⟨32, rfl⟩, .inl rfl, fun b p s g hs hlow hS h => ?_⟩
    have e0 := (show b.eval (.tmp 31) = .pointer (some ⟨rb, 0, none⟩) from h.rd 1 _ _ 31 (by kernel_rfl) rfl rfl)
    have ec : ∀ v, b.eval (.const v) = v := fun _ => rfl
    refine ⟨_, by simp only [List.getElem?_toArray, List.getElem?_cons_succ, List.getElem?_cons_zero]; rfl, .inl ⟨(wanted_none rfl), ?_⟩⟩
    obtain ⟨ρ, hρ⟩ : ∃ ρ, b.eval = ρ := ⟨_, rfl⟩
    rw [hρ] at e0 ec ⊢
    unfold execOp; simp [go_sem, e0, ec]
  · refine ⟨⟨33, rfl⟩, .inl rfl, fun b p s g hs hlow hS h => ?_⟩
    have e0 := (show b.eval (.tmp 32) = .pointer (some ⟨rb, 0, none⟩) from h.rd 2 _ _ 32 (by kernel_rfl) rfl rfl)
    have ec : ∀ v, b.eval (.const v) = v := fun _ => rfl
    refine ⟨_, by simp only [List.getElem?_toArray, List.getElem?_cons_succ, List.getElem?_cons_zero]; rfl, .inl ⟨(wanted_none rfl), ?_⟩⟩
    obtain ⟨ρ, hρ⟩ : ∃ ρ, b.eval = ρ := ⟨_, rfl⟩
    rw [hρ] at e0 ec ⊢
    unfold execOp; simp [go_sem, e0, ec]
  · refine ⟨⟨34, rfl⟩, .inl rfl, fun b p s g hs hlow hS h => ?_⟩
    have e0 := (show b.eval (.tmp 33) = .pointer (some ⟨rb, 0, none⟩) from h.rd 3 _ _ 33 (by kernel_rfl) rfl rfl)
    have hf := hS
    have c0 := (show p.cell? ⟨rb, 0, none⟩ = some (.pointer (some ⟨tb, 0, none⟩)) from ((hR.keep0 hf).cell 0))
    have ec : ∀ v, b.eval (.const v) = v := fun _ => rfl
    refine ⟨_, by simp only [List.getElem?_toArray, List.getElem?_cons_succ, List.getElem?_cons_zero]; rfl, .inl ⟨(wanted_none rfl), ?_⟩⟩
    obtain ⟨ρ, hρ⟩ : ∃ ρ, b.eval = ρ := ⟨_, rfl⟩
    rw [hρ] at e0 ec ⊢
    unfold execOp; simp [go_sem, e0, ec, c0]
  · refine ⟨⟨35, rfl⟩, .inl rfl, fun b p s g hs hlow hS h => ?_⟩
    have e0 := (show b.eval (.tmp 0) = .pointer (some ⟨rb, 0, none⟩) from (h.old 0 (by decide)).trans h0)
    have ec : ∀ v, b.eval (.const v) = v := fun _ => rfl
    refine ⟨_, by simp only [List.getElem?_toArray, List.getElem?_cons_succ, List.getElem?_cons_zero]; rfl, .inl ⟨(wanted_none rfl), ?_⟩⟩
    obtain ⟨ρ, hρ⟩ : ∃ ρ, b.eval = ρ := ⟨_, rfl⟩
    rw [hρ] at e0 ec ⊢
    unfold execOp; simp [go_sem, e0, ec]
  · refine ⟨⟨36, rfl⟩, .inl rfl, fun b p s g hs hlow hS h => ?_⟩
    have e0 := (show b.eval (.tmp 35) = .pointer (some ⟨rb, 0, none⟩) from h.rd 5 _ _ 35 (by kernel_rfl) rfl rfl)
    have ec : ∀ v, b.eval (.const v) = v := fun _ => rfl
    refine ⟨_, by simp only [List.getElem?_toArray, List.getElem?_cons_succ, List.getElem?_cons_zero]; rfl, .inl ⟨(wanted_none rfl), ?_⟩⟩
    obtain ⟨ρ, hρ⟩ : ∃ ρ, b.eval = ρ := ⟨_, rfl⟩
    rw [hρ] at e0 ec ⊢
    unfold execOp; simp [go_sem, e0, ec]
  · refine ⟨⟨37, rfl⟩, .inl rfl, fun b p s g hs hlow hS h => ?_⟩
    have e0 := (show b.eval (.tmp 36) = .pointer (some ⟨rb, 0, none⟩) from h.rd 6 _ _ 36 (by kernel_rfl) rfl rfl)
    have ec : ∀ v, b.eval (.const v) = v := fun _ => rfl
    refine ⟨_, by simp only [List.getElem?_toArray, List.getElem?_cons_succ, List.getElem?_cons_zero]; rfl, .inl ⟨(wanted_none rfl), ?_⟩⟩
    obtain ⟨ρ, hρ⟩ : ∃ ρ, b.eval = ρ := ⟨_, rfl⟩
    rw [hρ] at e0 ec ⊢
    unfold execOp; simp [go_sem, e0, ec]
  · refine ⟨⟨38, rfl⟩, .inl rfl, fun b p s g hs hlow hS h => ?_⟩
    have e0 := (show b.eval (.tmp 37) = .pointer (some ⟨rb, 1, none⟩) from h.rd 7 _ _ 37 (by kernel_rfl) rfl rfl)
    have hf := hS
    have c0 := (show p.cell? ⟨rb, 1, none⟩ = some (.slice (some ⟨nb, no, none⟩) nl nc) from ((hR.keep0 hf).cell 1))
    have ec : ∀ v, b.eval (.const v) = v := fun _ => rfl
    refine ⟨_, by simp only [List.getElem?_toArray, List.getElem?_cons_succ, List.getElem?_cons_zero]; rfl, .inl ⟨(wanted_none rfl), ?_⟩⟩
    obtain ⟨ρ, hρ⟩ : ∃ ρ, b.eval = ρ := ⟨_, rfl⟩
    rw [hρ] at e0 ec ⊢
    unfold execOp; simp [go_sem, e0, ec, c0]
  · refine ⟨⟨39, rfl⟩, .inl rfl, fun b p s g hs hlow hS h => ?_⟩
    have e0 := (show b.eval (.tmp 8) = .int .i64 (j : Int) from (h.old 8 (by decide)).trans h8)
    have ec : ∀ v, b.eval (.const v) = v := fun _ => rfl
    refine ⟨_, by simp only [List.getElem?_toArray, List.getElem?_cons_succ, List.getElem?_cons_zero]; rfl, .inl ⟨(wanted_none rfl), ?_⟩⟩
    obtain ⟨ρ, hρ⟩ : ∃ ρ, b.eval = ρ := ⟨_, rfl⟩
    rw [hρ] at e0 ec ⊢
    unfold execOp; simp [go_sem, e0, ec]
  · refine ⟨⟨40, rfl⟩, .inl rfl, fun b p s g hs hlow hS h => ?_⟩
    have e0 := (show b.eval (.tmp 38) = .slice (some ⟨nb, no, none⟩) nl nc from h.rd 8 _ _ 38 (by kernel_rfl) rfl rfl)
    have e1 := (show b.eval (.tmp 39) = .int .i64 (j : Int) from h.rd 9 _ _ 39 (by kernel_rfl) rfl rfl)
    have ec : ∀ v, b.eval (.const v) = v := fun _ => rfl
    refine ⟨_, by simp only [List.getElem?_toArray, List.getElem?_cons_succ, List.getElem?_cons_zero]; rfl, .inl ⟨(wanted_none rfl), ?_⟩⟩
    obtain ⟨ρ, hρ⟩ : ∃ ρ, b.eval = ρ := ⟨_, rfl⟩
    rw [hρ] at e0 e1 ec ⊢
    unfold execOp; simp [go_sem, e0, e1, ec, hjn, show (j : Int) < nl by omega]
  · refine ⟨⟨41, rfl⟩, .inl rfl, fun b p s g hs hlow hS h => ?_⟩
    have e0 := (show b.eval (.tmp 40) = .pointer (some ⟨nb, no + j, none⟩) from h.rd 10 _ _ 40 (by kernel_rfl) rfl rfl)
    have hf := hS
    have c0 := (show p.cell? ⟨nb, no + j, none⟩ = some (.int .u8 (x.toNat : Int)) from (cell_mono hf hx))
    have ec : ∀ v, b.eval (.const v) = v := fun _ => rfl
    refine ⟨_, by simp only [List.getElem?_toArray, List.getElem?_cons_succ, List.getElem?_cons_zero]; rfl, .inl ⟨(wanted_none rfl), ?_⟩⟩
    obtain ⟨ρ, hρ⟩ : ∃ ρ, b.eval = ρ := ⟨_, rfl⟩
    rw [hρ] at e0 ec ⊢
    unfold execOp; simp [go_sem, e0, ec, c0]
  · refine ⟨⟨42, rfl⟩, .inl rfl, fun b p s g hs hlow hS h => ?_⟩
    have e0 := (show b.eval (.tmp 1) = .slice (some ⟨sb, so, none⟩) sn sc from (h.old 1 (by decide)).trans h1)
    have ec : ∀ v, b.eval (.const v) = v := fun _ => rfl
    refine ⟨_, by simp only [List.getElem?_toArray, List.getElem?_cons_succ, List.getElem?_cons_zero]; rfl, .inl ⟨(wanted_none rfl), ?_⟩⟩
    obtain ⟨ρ, hρ⟩ : ∃ ρ, b.eval = ρ := ⟨_, rfl⟩
    rw [hρ] at e0 ec ⊢
    unfold execOp; simp [go_sem, e0, ec]
  · refine ⟨⟨43, rfl⟩, .inl rfl, fun b p s g hs hlow hS h => ?_⟩
    have e0 := (show b.eval (.tmp 2) = .int .i64 (i : Int) from (h.old 2 (by decide)).trans h2)
    have ec : ∀ v, b.eval (.const v) = v := fun _ => rfl
    refine ⟨_, by simp only [List.getElem?_toArray, List.getElem?_cons_succ, List.getElem?_cons_zero]; rfl, .inl ⟨(wanted_none rfl), ?_⟩⟩
    obtain ⟨ρ, hρ⟩ : ∃ ρ, b.eval = ρ := ⟨_, rfl⟩
    rw [hρ] at e0 ec ⊢
    unfold execOp; simp [go_sem, e0, ec]
  · refine ⟨⟨44, rfl⟩, .inl rfl, fun b p s g hs hlow hS h => ?_⟩
    have e0 := (show b.eval (.tmp 8) = .int .i64 (j : Int) from (h.old 8 (by decide)).trans h8)
    have ec : ∀ v, b.eval (.const v) = v := fun _ => rfl
    refine ⟨_, by simp only [List.getElem?_toArray, List.getElem?_cons_succ, List.getElem?_cons_zero]; rfl, .inl ⟨(wanted_none rfl), ?_⟩⟩
    obtain ⟨ρ, hρ⟩ : ∃ ρ, b.eval = ρ := ⟨_, rfl⟩
    rw [hρ] at e0 ec ⊢
    unfold execOp; simp [go_sem, e0, ec]
  · refine ⟨⟨45, rfl⟩, .inl rfl, fun b p s g hs hlow hS h => ?_⟩
    have e0 := (show b.eval (.tmp 43) = .int .i64 (i : Int) from h.rd 13 _ _ 43 (by kernel_rfl) rfl rfl)
    have e1 := (show b.eval (.tmp 44) = .int .i64 (j : Int) from h.rd 14 _ _ 44 (by kernel_rfl) rfl rfl)
    have ec : ∀ v, b.eval (.const v) = v := fun _ => rfl
    refine ⟨_, by simp only [List.getElem?_toArray, List.getElem?_cons_succ, List.getElem?_cons_zero]; rfl, .inl ⟨(wanted_none rfl), ?_⟩⟩
    obtain ⟨ρ, hρ⟩ : ∃ ρ, b.eval = ρ := ⟨_, rfl⟩
    rw [hρ] at e0 e1 ec ⊢
    unfold execOp; simp [go_sem, e0, e1, ec, show IntKind.i64.wrap ((i : Int) - j) = ((i - j : Nat) : Int) by rw [IntKind.wrap_i64]; omega]
  · refine ⟨⟨46, rfl⟩, .inl rfl, fun b p s g hs hlow hS h => ?_⟩
    have e0 := (show b.eval (.tmp 42) = .slice (some ⟨sb, so, none⟩) sn sc from h.rd 12 _ _ 42 (by kernel_rfl) rfl rfl)
    have e1 := (show b.eval (.tmp 45) = .int .i64 ((i - j : Nat) : Int) from h.rd 15 _ _ 45 (by kernel_rfl) rfl rfl)
    have ec : ∀ v, b.eval (.const v) = v := fun _ => rfl
    refine ⟨_, by simp only [List.getElem?_toArray, List.getElem?_cons_succ, List.getElem?_cons_zero]; rfl, .inl ⟨(wanted_none rfl), ?_⟩⟩
    obtain ⟨ρ, hρ⟩ : ∃ ρ, b.eval = ρ := ⟨_, rfl⟩
    rw [hρ] at e0 e1 ec ⊢
    unfold execOp; simp [go_sem, e0, e1, ec, show ((i - j : Nat) : Int) < sn by omega, show i - j < sn by omega]
  · refine ⟨⟨47, rfl⟩, .inl rfl, fun b p s g hs hlow hS h => ?_⟩
    have e0 := (show b.eval (.tmp 46) = .pointer (some ⟨sb, so + (i - j), none⟩) from h.rd 16 _ _ 46 (by kernel_rfl) rfl rfl)
    have hf := hS
    have c0 := (show p.cell? ⟨sb, so + (i - j), none⟩ = some (.int .u8 (y.toNat : Int)) from (cell_mono hf hy))
    have ec : ∀ v, b.eval (.const v) = v := fun _ => rfl
    refine ⟨_, by simp only [List.getElem?_toArray, List.getElem?_cons_succ, List.getElem?_cons_zero]; rfl, .inl ⟨(wanted_none rfl), ?_⟩⟩
    obtain ⟨ρ, hρ⟩ : ∃ ρ, b.eval = ρ := ⟨_, rfl⟩
    rw [hρ] at e0 ec ⊢
    unfold execOp; simp [go_sem, e0, ec, c0]
  · refine ⟨rfl, .inl rfl, fun b p g hS h => ?_⟩
    have e0 := (show b.eval (.tmp 34) = .pointer (some ⟨tb, 0, none⟩) from h.rd 4 _ _ 34 (by kernel_rfl) rfl rfl)
    have e1 := (show b.eval (.tmp 41) = .int .u8 (x.toNat : Int) from h.rd 11 _ _ 41 (by kernel_rfl) rfl rfl)
    have e2 := (show b.eval (.tmp 47) = .int .u8 (y.toNat : Int) from h.rd 17 _ _ 47 (by kernel_rfl) rfl rfl)
    have hf := hS
    refine opV_func _ (by simp only [List.getElem?_toArray, List.getElem?_cons_succ, List.getElem?_cons_zero]; rfl) (wanted_none rfl) 65 _ _ rfl #[.pointer (some ⟨tb, 0, none⟩), .int .u8 (x.toNat : Int), .int .u8 (y.toNat : Int)] (by simp only [List.map_toArray, List.map_cons, List.map_nil, e0, e1, e2]) (by simp [go_sem]) ((tmul_any p tb (hT.keep0 hf) x y).mono ?_)
    rintro e p' ⟨rfl, hf'⟩
    exact ⟨_, rfl, hf.trans hf', .inr rfl⟩
  · refine ⟨⟨49, rfl⟩, .inl rfl, fun b p s g hs hlow hS h => ?_⟩
    have e0 := (show b.eval (.tmp 30) = .int .u8 (d.toNat : Int) from h.rd 0 _ _ 30 (by kernel_rfl) rfl rfl)
    have e1 := (show b.eval (.tmp 48) = .int .u8 ((gmul x y).toNat : Int) from h.st 18 _ 48 (by kernel_rfl) rfl rfl)
    have ec : ∀ v, b.eval (.const v) = v := fun _ => rfl
    refine ⟨_, by simp only [List.getElem?_toArray, List.getElem?_cons_succ, List.getElem?_cons_zero]; rfl, .inl ⟨(wanted_none rfl), ?_⟩⟩
    obtain ⟨ρ, hρ⟩ : ∃ ρ, b.eval = ρ := ⟨_, rfl⟩
    rw [hρ] at e0 e1 ec ⊢
    unfold execOp; simp [go_sem, e0, e1, ec, u8_xor_u]
  · refine ⟨⟨7, rfl⟩, .inl rfl, fun b p s g hs hlow hS h => ?_⟩
    have e0 := (show b.eval (.tmp 49) = .int .u8 ((d ^^^ gmul x y).toNat : Int) from h.rd 19 _ _ 49 (by kernel_rfl) rfl rfl)
    have ec : ∀ v, b.eval (.const v) = v := fun _ => rfl
    refine ⟨_, by simp only [List.getElem?_toArray, List.getElem?_cons_succ, List.getElem?_cons_zero]; rfl, .inl ⟨(wanted_none rfl), ?_⟩⟩
    obtain ⟨ρ, hρ⟩ : ∃ ρ, b.eval = ρ := ⟨_, rfl⟩
    rw [hρ] at e0 ec ⊢
    unfold execOp; simp [go_sem, e0, ec]
  · intro b p h1 h2 h3 h4 h5
    obtain ⟨g, h4, h6⟩ := h4
    have r7 : slot b 7 = .int .u8 ((d ^^^ gmul x y).toNat : Int) := h5 20 (.int .u8 ((d ^^^ gmul x y).toNat : Int)) _ 7 rfl rfl
    exact hQ b p h1 (h2.trans hsz) (fun s hs => h3 s (fun hm => hs (by simpa using hm))) r7 h4

noncomputable def step_divR : Code := ((Tryd.f107.body.bind (findRegionC 3)).getD .skip)
set_option maxRecDepth 1000000 in
set_option maxHeartbeats 8000000 in
theorem step_div (w : World) (a : Go.Act) (hsz : a.tmps.size = 94) (rb tb nl nc on oc long since : Nat) (na oa : Option Addr) (d gapv : UInt8) (hR : At w rb (.cells #[.pointer (some ⟨tb, 0, none⟩), .slice na nl nc, .int .i64 (long : Int), .slice oa on oc, .int .u8 (gapv.toNat : Int), .int .i64 (since : Int)] 196)) (hT : At w tb (.cells tabF 171)) (h0 : slot a 0 = .pointer (some ⟨rb, 0, none⟩)) (h6 : slot a 6 = .int .u8 (d.toNat : Int)) (Q : Exit → Go.Act → World → Prop)
    (hQ : ∀ (b : Go.Act) (p : World), b.defers = a.defers → b.tmps.size = 94 → (∀ s, s ∉ ([22, 23, 24, 25, 26, 27, 28, 29, 30, 31, 7] : List Nat) → slot b s = slot a s) → slot b 7 = .int .u8 ((gmul d (ginv gapv)).toNat : Int) → Fr [] w p → Q .normal b p) : Code.wp Tryd.prog step_divR Q a w := by
  conv => arg 2; whnf
  refine wp_region_ghost (by kernel_rfl) (by kernel_rfl) [some 22, some 23, some 24, some 25, some 26, some 27, some 28, some 29, some 30, some 31, some 7] [9] [.rd (.pointer (some ⟨rb, 0, none⟩)) 1, .rd (.pointer (some ⟨rb, 0, none⟩)) 1, .rd (.pointer (some ⟨rb, 0, none⟩)) 1, .rd (.pointer (some ⟨tb, 0, none⟩)) 1, .rd (.int .u8 (d.toNat : Int)) 1, .rd (.pointer (some ⟨rb, 0, none⟩)) 1, .rd (.pointer (some ⟨rb, 0, none⟩)) 1, .rd (.pointer (some ⟨rb, 4, none⟩)) 1, .rd (.int .u8 (gapv.toNat : Int)) 1, .st 0, .rd (.int .u8 ((gmul d (ginv gapv)).toNat : Int)) 1] (fun cj => if cj = 0 then (.int .u8 ((gmul d (ginv gapv)).toNat : Int)) else undef) (fun s g p => Fr [] w p) (by kernel_rfl) (by rfl) (by rw [hsz]; rfl) (by kernel_rfl) (by kernel_rfl) (by decide) ?_ ⟨?_, ?_, ?_, ?_, ?_, ?_, ?_, ?_, ?_, ?_, ?_, trivial⟩ ?_
  · intro w1 hw1
    exact ⟨fun _ => undef, hw1⟩
  · refine ⟨⟨22, rfl⟩, .inl rfl, fun b p s g hs hlow hS h => ?_⟩
    have e0 := (show b.eval (.tmp 0) = .pointer (some ⟨rb, 0, none⟩) from (h.old 0 (by decide)).trans h0)
    have ec : ∀ v, b.eval (.const v) = v := fun _ => rfl
    refine ⟨_, by simp only [List.getElem?_toArray, List.getElem?_cons_succ, List.getElem?_cons_zero]; rfl, .inl ⟨(wanted_none rfl), ?_⟩⟩
    obtain ⟨ρ, hρ⟩ : ∃ ρ, b.eval = ρ := ⟨_, rfl⟩
    rw [hρ] at e0 ec ⊢
    unfold execOp; simp [go_sem, e0, ec]
  · refine ⟨⟨23, rfl⟩, .inl rfl, fun b p s g hs hlow hS h => ?_⟩
    have e0 := (show b.eval (.tmp 22) = .pointer (some ⟨rb, 0, none⟩) from h.rd 0 _ _ 22 (by kernel_rfl) rfl rfl)
    have ec : ∀ v, b.eval (.const v) = v := fun _ => rfl
    refine ⟨_, by simp only [List.getElem?_toArray, List.getElem?_cons_succ, List.getElem?_cons_zero]; rfl, .inl ⟨(wanted_none rfl), ?_⟩⟩
    obtain ⟨ρ, hρ⟩ : ∃ ρ, b.eval = ρ := ⟨_, rfl⟩
    rw [hρ] at e0 ec ⊢
    unfold execOp; simp [go_sem, e0, ec]
  · refine ⟨⟨24, rfl⟩, .inl rfl, fun b p s g hs hlow hS h => ?_⟩
    have e0 := (show b.eval (.tmp 23) = .pointer (some ⟨rb, 0, none⟩) from h.rd 1 _ _ 23 (by kernel_rfl) rfl rfl)
    have ec : ∀ v, b.eval (.const v) = v := fun _ => rfl
    refine ⟨_, by simp only [List.getElem?_toArray, List.getElem?_cons_succ, List.getElem?_cons_zero]; rfl, .inl ⟨(wanted_none rfl), ?_⟩⟩
    obtain ⟨ρ, hρ⟩ : ∃ ρ, b.eval = ρ := ⟨_, rfl⟩
    rw [hρ] at e0 ec ⊢
    unfold execOp; simp [go_sem, e0, ec]
  · refine ⟨⟨25, rfl⟩, .inl rfl, fun b p s g hs hlow hS h => ?_⟩
    have e0 := (show b.eval (.tmp 24) = .pointer (some ⟨rb, 0, none⟩) from h.rd 2 _ _ 24 (by kernel_rfl) rfl rfl)
    have hf := hS
    have c0 := (show p.cell? ⟨rb, 0, none⟩ = some (.pointer (some ⟨tb, 0, none⟩)) from ((hR.keep0 hf).cell 0))
    have ec : ∀ v, b.eval (.const v) = v := fun _ => rfl
    refine ⟨_, by simp only [List.getElem?_toArray, List.getElem?_cons_succ, List.getElem?_cons_zero]; rfl, .inl ⟨(wanted_none rfl), ?_⟩⟩
    obtain ⟨ρ, hρ⟩ : ∃ ρ, b.eval = ρ := ⟨_, rfl⟩
    rw [hρ] at e0 ec ⊢
    unfold execOp; simp [go_sem, e0, ec, c0]
  · refine ⟨⟨26, rfl⟩, .inl rfl, fun b p s g hs hlow hS h => ?_⟩
    have e0 := (show b.eval (.tmp 6) = .int .u8 (d.toNat : Int) from (h.old 6 (by decide)).trans h6)
    have ec : ∀ v, b.eval (.const v) = v := fun _ => rfl
    refine ⟨_, by simp only [List.getElem?_toArray, List.getElem?_cons_succ, List.getElem?_cons_zero]; rfl, .inl ⟨(wanted_none rfl), ?_⟩⟩
    obtain ⟨ρ, hρ⟩ : ∃ ρ, b.eval = ρ := ⟨_, rfl⟩
    rw [hρ] at e0 ec ⊢
    unfold execOp; simp [go_sem, e0, ec]
  · refine ⟨⟨27, rfl⟩, .inl rfl, fun b p s g hs hlow hS h => ?_⟩
    have e0 := (show b.eval (.tmp 0) = .pointer (some ⟨rb, 0, none⟩) from (h.old 0 (by decide)).trans h0)
    have ec : ∀ v, b.eval (.const v) = v := fun _ => rfl
    refine ⟨_, by simp only [List.getElem?_toArray, List.getElem?_cons_succ, List.getElem?_cons_zero]; rfl, .inl ⟨(wanted_none rfl), ?_⟩⟩
    obtain ⟨ρ, hρ⟩ : ∃ ρ, b.eval = ρ := ⟨_, rfl⟩
    rw [hρ] at e0 ec ⊢
    unfold execOp; simp [go_sem, e0, ec]
  · refine ⟨⟨28, rfl⟩, .inl rfl, fun b p s g hs hlow hS h => ?_⟩
    have e0 := (show b.eval (.tmp 27) = .pointer (some ⟨rb, 0, none⟩) from h.rd 5 _ _ 27 (by kernel_rfl) rfl rfl)
    have ec : ∀ v, b.eval (.const v) = v := fun _ => rfl
    refine ⟨_, by simp only [List.getElem?_toArray, List.getElem?_cons_succ, List.getElem?_cons_zero]; rfl, .inl ⟨(wanted_none rfl), ?_⟩⟩
    obtain ⟨ρ, hρ⟩ : ∃ ρ, b.eval = ρ := ⟨_, rfl⟩
    rw [hρ] at e0 ec ⊢
    unfold execOp; simp [go_sem, e0, ec]
  · refine ⟨⟨29, rfl⟩, .inl rfl, fun b p s g hs hlow hS h => ?_⟩
    have e0 := (show b.eval (.tmp 28) = .pointer (some ⟨rb, 0, none⟩) from h.rd 6 _ _ 28 (by kernel_rfl) rfl rfl)
    have ec : ∀ v, b.eval (.const v) = v := fun _ => rfl
    refine ⟨_, by simp only [List.getElem?_toArray, List.getElem?_cons_succ, List.getElem?_cons_zero]; rfl, .inl ⟨(wanted_none rfl), ?_⟩⟩
    obtain ⟨ρ, hρ⟩ : ∃ ρ, b.eval = ρ := ⟨_, rfl⟩
    rw [hρ] at e0 ec ⊢
    unfold execOp; simp [go_sem, e0, ec]
  · refine ⟨⟨30, rfl⟩, .inl rfl, fun b p s g hs hlow hS h => ?_⟩
    have e0 := (show b.eval (.tmp 29) = .pointer (some ⟨rb, 4, none⟩) from h.rd 7 _ _ 29 (by kernel_rfl) rfl rfl)
    have hf := hS
    have c0 := (show p.cell? ⟨rb, 4, none⟩ = some (.int .u8 (gapv.toNat : Int)) from ((hR.keep0 hf).cell 4))
    have ec : ∀ v, b.eval (.const v) = v := fun _ => rfl
    refine ⟨_, by simp only [List.getElem?_toArray, List.getElem?_cons_succ, List.getElem?_cons_zero]; rfl, .inl ⟨(wanted_none rfl), ?_⟩⟩
    obtain ⟨ρ, hρ⟩ : ∃ ρ, b.eval = ρ := ⟨_, rfl⟩
    rw [hρ] at e0 ec ⊢
    unfold execOp; simp [go_sem, e0, ec, c0]
  · refine ⟨rfl, .inl rfl, fun b p g hS h => ?_⟩
    have e0 := (show b.eval (.tmp 25) = .pointer (some ⟨tb, 0, none⟩) from h.rd 3 _ _ 25 (by kernel_rfl) rfl rfl)
    have e1 := (show b.eval (.tmp 26) = .int .u8 (d.toNat : Int) from h.rd 4 _ _ 26 (by kernel_rfl) rfl rfl)
    have e2 := (show b.eval (.tmp 30) = .int .u8 (gapv.toNat : Int) from h.rd 8 _ _ 30 (by kernel_rfl) rfl rfl)
    have hf := hS
    refine opV_func _ (by simp only [List.getElem?_toArray, List.getElem?_cons_succ, List.getElem?_cons_zero]; rfl) (wanted_none rfl) 131 _ _ rfl #[.pointer (some ⟨tb, 0, none⟩), .int .u8 (d.toNat : Int), .int .u8 (gapv.toNat : Int)] (by simp only [List.map_toArray, List.map_cons, List.map_nil, e0, e1, e2]) (by simp [go_sem]) ((tdiv_any p tb (hT.keep0 hf) d gapv).mono ?_)
    rintro e p' ⟨rfl, hf'⟩
    exact ⟨_, rfl, hf.trans hf', .inr rfl⟩
  · refine ⟨⟨7, rfl⟩, .inl rfl, fun b p s g hs hlow hS h => ?_⟩
    have e0 := (show b.eval (.tmp 31) = .int .u8 ((gmul d (ginv gapv)).toNat : Int) from h.st 9 _ 31 (by kernel_rfl) rfl rfl)
    have ec : ∀ v, b.eval (.const v) = v := fun _ => rfl
    refine ⟨_, by simp only [List.getElem?_toArray, List.getElem?_cons_succ, List.getElem?_cons_zero]; rfl, .inl ⟨(wanted_none rfl), ?_⟩⟩
    obtain ⟨ρ, hρ⟩ : ∃ ρ, b.eval = ρ := ⟨_, rfl⟩
    rw [hρ] at e0 ec ⊢
    unfold execOp; simp [go_sem, e0, ec]
  · intro b p h1 h2 h3 h4 h5
    obtain ⟨g, h4, h6⟩ := h4
    have r7 : slot b 7 = .int .u8 ((gmul d (ginv gapv)).toNat : Int) := h5 10 (.int .u8 ((gmul d (ginv gapv)).toNat : Int)) _ 7 rfl rfl
    exact hQ b p h1 (h2.trans hsz) (fun s hs => h3 s (fun hm => hs (by simpa using hm))) r7 h4

noncomputable def step_nextR : Code := ((Tryd.f107.body.bind (findRegionC 4)).getD .skip)
set_option maxRecDepth 1000000 in
set_option maxHeartbeats 8000000 in
theorem step_next (w : World) (a : Go.Act) (hsz : a.tmps.size = 94) (rb tb nl nc on oc long since : Nat) (na oa : Option Addr) (q gapv : UInt8) (ns os : List UInt8) (hR : At w rb (.cells #[.pointer (some ⟨tb, 0, none⟩), .slice na nl nc, .int .i64 (long : Int), .slice oa on oc, .int .u8 (gapv.toNat : Int), .int .i64 (since : Int)] 196)) (hn : Bs (fun _ => False) w (.slice na nl nc) ns) (ho : Bs (fun _ => False) w (.slice oa on oc) os) (hnl : ns.length ≤ 300) (hol : os.length ≤ 300) (hsi : since ≤ 300) (h0 : slot a 0 = .pointer (some ⟨rb, 0, none⟩)) (h7 : slot a 7 = .int .u8 (q.toNat : Int)) (Q : Exit → Go.Act → World → Prop)
    (hQ : ∀ (b : Go.Act) (p : World), b.defers = a.defers → b.tmps.size = 94 → (∀ s, s ∉ ([32, 33, 34, 35, 36, 37, 38, 39, 40, 41, 42, 43, 44, 45, 46, 47, 8] : List Nat) → slot b s = slot a s) → OwnB 5 w.heap.size p (slot b 8) (padd ns (pshift (pscale os q) since)) → Fr [] w p → Q .normal b p) : Code.wp Tryd.prog step_nextR Q a w := by
  conv => arg 2; whnf
  refine wp_region_ghost (by kernel_rfl) (by kernel_rfl) [some 32, some 33, some 34, some 35, some 36, some 37, some 38, some 39, some 40, some 41, some 42, some 43, some 44, some 45, some 46, some 47, some 8] [9, 14, 15] [.rd (.pointer (some ⟨rb, 0, none⟩)) 3, .rd (.pointer (some ⟨rb, 0, none⟩)) 3, .rd (.pointer (some ⟨rb, 1, none⟩)) 3, .rd (.slice na nl nc) 3, .rd (.pointer (some ⟨rb, 0, none⟩)) 3, .rd (.pointer (some ⟨rb, 0, none⟩)) 3, .rd (.pointer (some ⟨rb, 3, none⟩)) 3, .rd (.slice oa on oc) 3, .rd (.int .u8 (q.toNat : Int)) 3, .gh 0, .rd (.pointer (some ⟨rb, 0, none⟩)) 3, .rd (.pointer (some ⟨rb, 0, none⟩)) 3, .rd (.pointer (some ⟨rb, 5, none⟩)) 3, .rd (.int .i64 (since : Int)) 3, .gh 1, .gh 2, .mv 2] (fun cj => undef) (fun s g p => Fr [] w p ∧ (0 < s → OwnB 5 w.heap.size p (g 0) (pscale os q)) ∧ (1 < s → OwnB 5 w.heap.size p (g 1) (pshift (pscale os q) since)) ∧ (2 < s → OwnB 5 w.heap.size p (g 2) (padd ns (pshift (pscale os q) since)))) (by kernel_rfl) (by rfl) (by rw [hsz]; rfl) (by kernel_rfl) (by kernel_rfl) (by decide) ?_ ⟨?_, ?_, ?_, ?_, ?_, ?_, ?_, ?_, ?_, ?_, ?_, ?_, ?_, ?_, ?_, ?_, ?_, trivial⟩ ?_
  · intro w1 hw1
    exact ⟨fun _ => undef, ⟨hw1, fun hk => absurd hk (by decide), fun hk => absurd hk (by decide), fun hk => absurd hk (by decide)⟩⟩
  · refine ⟨⟨32, rfl⟩, .inl rfl, fun b p s g hs hlow hS h => ?_⟩
    have e0 := (show b.eval (.tmp 0) = .pointer (some ⟨rb, 0, none⟩) from (h.old 0 (by decide)).trans h0)
    have ec : ∀ v, b.eval (.const v) = v := fun _ => rfl
    refine ⟨_, by simp only [List.getElem?_toArray, List.getElem?_cons_succ, List.getElem?_cons_zero]; rfl, .inl ⟨(wanted_none rfl), ?_⟩⟩
    obtain ⟨ρ, hρ⟩ : ∃ ρ, b.eval = ρ := ⟨_, rfl⟩
    rw [hρ] at e0 ec ⊢
    unfold execOp; simp [go_sem, e0, ec]
  · refine ⟨⟨33, rfl⟩, .inl rfl, fun b p s g hs hlow hS h => ?_⟩
    have e0 := (show b.eval (.tmp 32) = .pointer (some ⟨rb, 0, none⟩) from h.rd 0 _ _ 32 (by kernel_rfl) rfl rfl)
    have ec : ∀ v, b.eval (.const v) = v := fun _ => rfl
    refine ⟨_, by simp only [List.getElem?_toArray, List.getElem?_cons_succ, List.getElem?_cons_zero]; rfl, .inl ⟨(wanted_none rfl), ?_⟩⟩
    obtain ⟨ρ, hρ⟩ : ∃ ρ, b.eval = ρ := ⟨_, rfl⟩
    rw [hρ] at e0 ec ⊢
    unfold execOp; simp [go_sem, e0, ec]
  · refine ⟨⟨34, rfl⟩, .inl rfl, fun b p s g hs hlow hS h => ?_⟩
    have e0 := (show b.eval (.tmp 33) = .pointer (some ⟨rb, 0, none⟩) from h.rd 1 _ _ 33 (by kernel_rfl) rfl rfl)
    have ec : ∀ v, b.eval (.const v) = v := fun _ => rfl
    refine ⟨_, by simp only [List.getElem?_toArray, List.getElem?_cons_succ, List.getElem?_cons_zero]; rfl, .inl ⟨(wanted_none rfl), ?_⟩⟩
    obtain ⟨ρ, hρ⟩ : ∃ ρ, b.eval = ρ := ⟨_, rfl⟩
    rw [hρ] at e0 ec ⊢
    unfold execOp; simp [go_sem, e0, ec]
  · refine ⟨⟨35, rfl⟩, .inl rfl, fun b p s g hs hlow hS h => ?_⟩
    have e0 := (show b.eval (.tmp 34) = .pointer (some ⟨rb, 1, none⟩) from h.rd 2 _ _ 34 (by kernel_rfl) rfl rfl)
    obtain ⟨hf, q0, q1, q2⟩ := hS
    have c0 := (show p.cell? ⟨rb, 1, none⟩ = some (.slice na nl nc) from ((hR.keep0 hf).cell 1))
    have ec : ∀ v, b.eval (.const v) = v := fun _ => rfl
    refine ⟨_, by simp only [List.getElem?_toArray, List.getElem?_cons_succ, List.getElem?_cons_zero]; rfl, .inl ⟨(wanted_none rfl), ?_⟩⟩
    obtain ⟨ρ, hρ⟩ : ∃ ρ, b.eval = ρ := ⟨_, rfl⟩
    rw [hρ] at e0 ec ⊢
    unfold execOp; simp [go_sem, e0, ec, c0]
  · refine ⟨⟨36, rfl⟩, .inl rfl, fun b p s g hs hlow hS h => ?_⟩
    have e0 := (show b.eval (.tmp 0) = .pointer (some ⟨rb, 0, none⟩) from (h.old 0 (by decide)).trans h0)
    have ec : ∀ v, b.eval (.const v) = v := fun _ => rfl
    refine ⟨_, by simp only [List.getElem?_toArray, List.getElem?_cons_succ, List.getElem?_cons_zero]; rfl, .inl ⟨(wanted_none rfl), ?_⟩⟩
    obtain ⟨ρ, hρ⟩ : ∃ ρ, b.eval = ρ := ⟨_, rfl⟩
    rw [hρ] at e0 ec ⊢
    unfold execOp; simp [go_sem, e0, ec]
  · refine ⟨⟨37, rfl⟩, .inl rfl, fun b p s g hs hlow hS h => ?_⟩
    have e0 := (show b.eval (.tmp 36) = .pointer (some ⟨rb, 0, none⟩) from h.rd 4 _ _ 36 (by kernel_rfl) rfl rfl)
    have ec : ∀ v, b.eval (.const v) = v := fun _ => rfl
    refine ⟨_, by simp only [List.getElem?_toArray, List.getElem?_cons_succ, List.getElem?_cons_zero]; rfl, .inl ⟨(wanted_none rfl), ?_⟩⟩
    obtain ⟨ρ, hρ⟩ : ∃ ρ, b.eval = ρ := ⟨_, rfl⟩
    rw [hρ] at e0 ec ⊢
    unfold execOp; simp [go_sem, e0, ec]
  · refine ⟨⟨38, rfl⟩, .inl rfl, fun b p s g hs hlow hS h => ?_⟩
    have e0 := (show b.eval (.tmp 37) = .pointer (some ⟨rb, 0, none⟩) from h.rd 5 _ _ 37 (by kernel_rfl) rfl rfl)
    have ec : ∀ v, b.eval (.const v) = v := fun _ => rfl
    refine ⟨_, by simp only [List.getElem?_toArray, List.getElem?_cons_succ, List.getElem?_cons_zero]; rfl, .inl ⟨(wanted_none rfl), ?_⟩⟩
    obtain ⟨ρ, hρ⟩ : ∃ ρ, b.eval = ρ := ⟨_, rfl⟩
    rw [hρ] at e0 ec ⊢
    unfold execOp; simp [go_sem, e0, ec]
  · refine ⟨⟨39, rfl⟩, .inl rfl, fun b p s g hs hlow hS h => ?_⟩
    have e0 := (show b.eval (.tmp 38) = .pointer (some ⟨rb, 3, none⟩) from h.rd 6 _ _ 38 (by kernel_rfl) rfl rfl)
    obtain ⟨hf, q0, q1, q2⟩ := hS
    have c0 := (show p.cell? ⟨rb, 3, none⟩ = some (.slice oa on oc) from ((hR.keep0 hf).cell 3))
    have ec : ∀ v, b.eval (.const v) = v := fun _ => rfl
    refine ⟨_, by simp only [List.getElem?_toArray, List.getElem?_cons_succ, List.getElem?_cons_zero]; rfl, .inl ⟨(wanted_none rfl), ?_⟩⟩
    obtain ⟨ρ, hρ⟩ : ∃ ρ, b.eval = ρ := ⟨_, rfl⟩
    rw [hρ] at e0 ec ⊢
    unfold execOp; simp [go_sem, e0, ec, c0]
  · refine ⟨⟨40, rfl⟩, .inl rfl, fun b p s g hs hlow hS h => ?_⟩
    have e0 := (show b.eval (.tmp 7) = .int .u8 (q.toNat : Int) from (h.old 7 (by decide)).trans h7)
    have ec : ∀ v, b.eval (.const v) = v := fun _ => rfl
    refine ⟨_, by simp only [List.getElem?_toArray, List.getElem?_cons_succ, List.getElem?_cons_zero]; rfl, .inl ⟨(wanted_none rfl), ?_⟩⟩
    obtain ⟨ρ, hρ⟩ : ∃ ρ, b.eval = ρ := ⟨_, rfl⟩
    rw [hρ] at e0 ec ⊢
    unfold execOp; simp [go_sem, e0, ec]
  · refine ⟨rfl, .inl rfl, fun b p g hS h => ?_⟩
    have e0 := (show b.eval (.tmp 39) = .slice oa on oc from h.rd 7 _ _ 39 (by kernel_rfl) rfl rfl)
    have e1 := (show b.eval (.tmp 40) = .int .u8 (q.toNat : Int) from h.rd 8 _ _ 40 (by kernel_rfl) rfl rfl)
    obtain ⟨hf, q0, q1, q2⟩ := hS
    refine opV_func _ (by simp only [List.getElem?_toArray, List.getElem?_cons_succ, List.getElem?_cons_zero]; rfl) (wanted_none rfl) 134 _ _ rfl #[.slice oa on oc, .int .u8 (q.toNat : Int)] (by simp only [List.map_toArray, List.map_cons, List.map_nil, e0, e1]) (by simp [go_sem]) ((pscale_any (fun _ => False) p (.slice oa on oc) os q (ho.keep hf (by simp)) (by omega)).mono ?_)
    rintro e p' ⟨u, rfl, ho', hf'⟩
    exact ⟨_, rfl, ⟨hf.trans hf', fun _ => ho'.base hf.size, fun hk => absurd hk (by decide), fun hk => absurd hk (by decide)⟩⟩
  · refine ⟨⟨42, rfl⟩, .inl rfl, fun b p s g hs hlow hS h => ?_⟩
    have e0 := (show b.eval (.tmp 0) = .pointer (some ⟨rb, 0, none⟩) from (h.old 0 (by decide)).trans h0)
    have ec : ∀ v, b.eval (.const v) = v := fun _ => rfl
    refine ⟨_, by simp only [List.getElem?_toArray, List.getElem?_cons_succ, List.getElem?_cons_zero]; rfl, .inl ⟨(wanted_none rfl), ?_⟩⟩
    obtain ⟨ρ, hρ⟩ : ∃ ρ, b.eval = ρ := ⟨_, rfl⟩
    rw [hρ] at e0 ec ⊢
    unfold execOp; simp [go_sem, e0, ec]
  · refine ⟨⟨43, rfl⟩, .inl rfl, fun b p s g hs hlow hS h => ?_⟩
    have e0 := (show b.eval (.tmp 42) = .pointer (some ⟨rb, 0, none⟩) from h.rd 10 _ _ 42 (by kernel_rfl) rfl rfl)
    have ec : ∀ v, b.eval (.const v) = v := fun _ => rfl
    refine ⟨_, by simp only [List.getElem?_toArray, List.getElem?_cons_succ, List.getElem?_cons_zero]; rfl, .inl ⟨(wanted_none rfl), ?_⟩⟩
    obtain ⟨ρ, hρ⟩ : ∃ ρ, b.eval = ρ := ⟨_, rfl⟩
    rw [hρ] at e0 ec ⊢
    unfold execOp; simp [go_sem, e0, ec]
  · refine ⟨⟨44, rfl⟩, .inl rfl, fun b p s g hs hlow hS h => ?_⟩
    have e0 := (show b.eval (.tmp 43) = .pointer (some ⟨rb, 0, none⟩) from h.rd 11 _ _ 43 (by kernel_rfl) rfl rfl)
    have ec : ∀ v, b.eval (.const v) = v := fun _ => rfl
    refine ⟨_, by simp only [List.getElem?_toArray, List.getElem?_cons_succ, List.getElem?_cons_zero]; rfl, .inl ⟨(wanted_none rfl), ?_⟩⟩
    obtain ⟨ρ, hρ⟩ : ∃ ρ, b.eval = ρ := ⟨_, rfl⟩
    rw [hρ] at e0 ec ⊢
    unfold execOp; simp [go_sem, e0, ec]
  · refine ⟨⟨45, rfl⟩, .inl rfl, fun b p s g hs hlow hS h => ?_⟩
    have e0 := (show b.eval (.tmp 44) = .pointer (some ⟨rb, 5, none⟩) from h.rd 12 _ _ 44 (by kernel_rfl) rfl rfl)
    obtain ⟨hf, q0, q1, q2⟩ := hS
    have c0 := (show p.cell? ⟨rb, 5, none⟩ = some (.int .i64 (since : Int)) from ((hR.keep0 hf).cell 5))
    have ec : ∀ v, b.eval (.const v) = v := fun _ => rfl
    refine ⟨_, by simp only [List.getElem?_toArray, List.getElem?_cons_succ, List.getElem?_cons_zero]; rfl, .inl ⟨(wanted_none rfl), ?_⟩⟩
    obtain ⟨ρ, hρ⟩ : ∃ ρ, b.eval = ρ := ⟨_, rfl⟩
    rw [hρ] at e0 ec ⊢
    unfold execOp; simp [go_sem, e0, ec, c0]
  · refine ⟨rfl, .inr ⟨9, rfl, by kernel_rfl⟩, fun b p g hS h => ?_⟩
    have e0 := (show b.eval (.tmp 41) = g 0 from h.gh 9 _ 41 (by kernel_rfl) rfl rfl)
    have e1 := (show b.eval (.tmp 45) = .int .i64 (since : Int) from h.rd 13 _ _ 45 (by kernel_rfl) rfl rfl)
    obtain ⟨hf, q0, q1, q2⟩ := hS
    refine opV_func _ (by simp only [List.getElem?_toArray, List.getElem?_cons_succ, List.getElem?_cons_zero]; rfl) (wanted_none rfl) 133 _ _ rfl #[g 0, .int .i64 (since : Int)] (by simp only [List.map_toArray, List.map_cons, List.map_nil, e0, e1]) (by simp [go_sem]) ((pshift_any (fun _ => False) p (g 0) (pscale os q) since (OwnB.bs (q0 (by decide)) (by simp)) (by have := pscale_len os q; omega) (by omega)).mono ?_)
    rintro e p' ⟨u, rfl, ho', hf'⟩
    exact ⟨_, rfl, ⟨hf.trans hf', fun _ => OwnB.keep (q0 (by decide)) hf' (by simp), fun _ => ho'.base hf.size, fun hk => absurd hk (by decide)⟩⟩
  · refine ⟨rfl, .inr ⟨14, rfl, by kernel_rfl⟩, fun b p g hS h => ?_⟩
    have e0 := (show b.eval (.tmp 35) = .slice na nl nc from h.rd 3 _ _ 35 (by kernel_rfl) rfl rfl)
    have e1 := (show b.eval (.tmp 46) = g 1 from h.gh 14 _ 46 (by kernel_rfl) rfl rfl)
    obtain ⟨hf, q0, q1, q2⟩ := hS
    refine opV_func _ (by simp only [List.getElem?_toArray, List.getElem?_cons_succ, List.getElem?_cons_zero]; rfl) (wanted_none rfl) 132 _ _ rfl #[.slice na nl nc, g 1] (by simp only [List.map_toArray, List.map_cons, List.map_nil, e0, e1]) (by simp [go_sem]) ((padd_any (fun _ => False) p (.slice na nl nc) (g 1) ns (pshift (pscale os q) since) (hn.keep hf (by simp)) (OwnB.bs (q1 (by decide)) (by simp)) (by omega) (by have := pscale_len os q; have := pshift_len (pscale os q) since; omega)).mono ?_)
    rintro e p' ⟨u, rfl, ho', hf'⟩
    exact ⟨_, rfl, ⟨hf.trans hf', fun _ => OwnB.keep (q0 (by decide)) hf' (by simp), fun _ => OwnB.keep (q1 (by decide)) hf' (by simp), fun _ => ho'.base hf.size⟩⟩
  · refine ⟨⟨8, rfl⟩, ⟨15, rfl, by kernel_rfl⟩, fun b p s g hlow hS h => ?_⟩
    have e0 := (show b.eval (.tmp 47) = g 2 from h.gh 15 _ 47 (by kernel_rfl) rfl rfl)
    refine ⟨_, by simp only [List.getElem?_toArray, List.getElem?_cons_succ, List.getElem?_cons_zero]; rfl, (wanted_none rfl), ?_⟩
    obtain ⟨ρ, hρ⟩ : ∃ ρ, b.eval = ρ := ⟨_, rfl⟩
    rw [hρ] at e0 ⊢
    unfold execOp; simp [go_sem, e0]
  · intro b p h1 h2 h3 h4 h5
    obtain ⟨g, h4, h6⟩ := h4
    obtain ⟨hf, q0, q1, q2⟩ := h4
    have g8 : slot b 8 = g 2 := h6 16 2 8 (.inr rfl) rfl
    exact hQ b p h1 (h2.trans hsz) (fun s hs => h3 s (fun hm => hs (by simpa using hm))) (by rw [g8]; exact q2 (by decide)) hf

noncomputable def reg_endR : Code := ((Tryd.f84.body.bind (findRegionC 7)).getD .skip)
set_option maxRecDepth 1000000 in
set_option maxHeartbeats 8000000 in
theorem reg_end (w : World) (a : Go.Act) (hsz : a.tmps.size = 30) (rb tb nl nc on oc long since : Nat) (na oa : Option Addr) (gapv : UInt8) (ns : List UInt8) (hR : At w rb (.cells #[.pointer (some ⟨tb, 0, none⟩), .slice na nl nc, .int .i64 (long : Int), .slice oa on oc, .int .u8 (gapv.toNat : Int), .int .i64 (since : Int)] 196)) (hn : Bs (fun _ => False) w (.slice na nl nc) ns) (hne : ns ≠ []) (hnl : ns.length ≤ 300) (h4 : slot a 4 = .pointer (some ⟨rb, 0, none⟩)) (Q : Exit → Go.Act → World → Prop)
    (hQ : ∀ (b : Go.Act) (p : World), b.defers = a.defers → b.tmps.size = 30 → (∀ s, s ∉ ([21, 22, 23, 24, 25, 26, 27, 28, 29, 2, 3] : List Nat) → slot b s = slot a s) → slot b 3 = .int .i64 (long : Int) → OwnB 5 w.heap.size p (slot b 2) (ptrim ns) → Fr [] w p → Q .normal b p) : Code.wp Tryd.prog reg_endR Q a w := by
  conv => arg 2; whnf
  refine wp_region_ghost (by kernel_rfl) (by kernel_rfl) [some 21, some 22, some 23, some 24, some 25, some 26, some 27, some 28, some 29, some 2, some 3] [4] [.rd (.pointer (some ⟨rb, 0, none⟩)) 1, .rd (.pointer (some ⟨rb, 0, none⟩)) 1, .rd (.pointer (some ⟨rb, 1, none⟩)) 1, .rd (.slice na nl nc) 1, .gh 0, .rd (.pointer (some ⟨rb, 0, none⟩)) 1, .rd (.pointer (some ⟨rb, 0, none⟩)) 1, .rd (.pointer (some ⟨rb, 2, none⟩)) 1, .rd (.int .i64 (long : Int)) 1, .mv 0, .rd (.int .i64 (long : Int)) 1] (fun cj => undef) (fun s g p => Fr [] w p ∧ (0 < s → OwnB 5 w.heap.size p (g 0) (ptrim ns))) (by kernel_rfl) (by rfl) (by rw [hsz]; rfl) (by kernel_rfl) (by kernel_rfl) (by decide) ?_ ⟨?_, ?_, ?_, ?_, ?_, ?_, ?_, ?_, ?_, ?_, ?_, trivial⟩ ?_
  · intro w1 hw1
    exact ⟨fun _ => undef, ⟨hw1, fun hk => absurd hk (by decide)⟩⟩
  · refine ⟨⟨21, rfl⟩, .inl rfl, fun b p s g hs hlow hS h => ?_⟩
    have e0 := (show b.eval (.tmp 4) = .pointer (some ⟨rb, 0, none⟩) from (h.old 4 (by decide)).trans h4)
    have ec : ∀ v, b.eval (.const v) = v := fun _ => rfl
    refine ⟨_, by simp only [List.getElem?_toArray, List.getElem?_cons_succ, List.getElem?_cons_zero]; rfl, .inl ⟨(wanted_none rfl), ?_⟩⟩
    obtain ⟨ρ, hρ⟩ : ∃ ρ, b.eval = ρ := ⟨_, rfl⟩
    rw [hρ] at e0 ec ⊢
    unfold execOp; simp [go_sem, e0, ec]
  · refine ⟨⟨22, rfl⟩, .inl rfl, fun b p s g hs hlow hS h => ?_⟩
    have e0 := (show b.eval (.tmp 21) = .pointer (some ⟨rb, 0, none⟩) from h.rd 0 _ _ 21 (by kernel_rfl) rfl rfl)
    have ec : ∀ v, b.eval (.const v) = v := fun _ => rfl
    refine ⟨_, by simp only [List.getElem?_toArray, List.getElem?_cons_succ, List.getElem?_cons_zero]; rfl, .inl ⟨(wanted_none rfl), ?_⟩⟩
    obtain ⟨ρ, hρ⟩ : ∃ ρ, b.eval = ρ := ⟨_, rfl⟩
    rw [hρ] at e0 ec ⊢
    unfold execOp; simp [go_sem, e0, ec]
  · refine ⟨⟨23, rfl⟩, .inl rfl, fun b p s g hs hlow hS h => ?_⟩
    have e0 := (show b.eval (.tmp 22) = .pointer (some ⟨rb, 0, none⟩) from h.rd 1 _ _ 22 (by kernel_rfl) rfl rfl)
    have ec : ∀ v, b.eval (.const v) = v := fun _ => rfl
    refine ⟨_, by simp only [List.getElem?_toArray, List.getElem?_cons_succ, List.getElem?_cons_zero]; rfl, .inl ⟨(wanted_none rfl), ?_⟩⟩
    obtain ⟨ρ, hρ⟩ : ∃ ρ, b.eval = ρ := ⟨_, rfl⟩
    rw [hρ] at e0 ec ⊢
    unfold execOp; simp [go_sem, e0, ec]
  · refine ⟨⟨24, rfl⟩, .inl rfl, fun b p s g hs hlow hS h => ?_⟩
    have e0 := (show b.eval (.tmp 23) = .pointer (some ⟨rb, 1, none⟩) from h.rd 2 _ _ 23 (by kernel_rfl) rfl rfl)
    obtain ⟨hf, q0⟩ := hS
    have c0 := (show p.cell? ⟨rb, 1, none⟩ = some (.slice na nl nc) from ((hR.keep0 hf).cell 1))
    have ec : ∀ v, b.eval (.const v) = v := fun _ => rfl
    refine ⟨_, by simp only [List.getElem?_toArray, List.getElem?_cons_succ, List.getElem?_cons_zero]; rfl, .inl ⟨(wanted_none rfl), ?_⟩⟩
    obtain ⟨ρ, hρ⟩ : ∃ ρ, b.eval = ρ := ⟨_, rfl⟩
    rw [hρ] at e0 ec ⊢
    unfold execOp; simp [go_sem, e0, ec, c0]
  · refine ⟨rfl, .inl rfl, fun b p g hS h => ?_⟩
    have e0 := (show b.eval (.tmp 24) = .slice na nl nc from h.rd 3 _ _ 24 (by kernel_rfl) rfl rfl)
    obtain ⟨hf, q0⟩ := hS
    refine opV_func _ (by simp only [List.getElem?_toArray, List.getElem?_cons_succ, List.getElem?_cons_zero]; rfl) (wanted_none rfl) 108 _ _ rfl #[.slice na nl nc] (by simp only [List.map_toArray, List.map_cons, List.map_nil, e0]) (by simp [go_sem]) ((trim_z (fun _ => False) p (.slice na nl nc) ns (hn.keep hf (by simp)) (bwI_of_bs (hn.keep hf (by simp)) hne) (by omega)).mono ?_)
    rintro e p' ⟨u, rfl, ho', hf'⟩
    exact ⟨_, rfl, ⟨hf.trans hf', fun _ => ho'.base hf.size⟩⟩
  · refine ⟨⟨26, rfl⟩, .inl rfl, fun b p s g hs hlow hS h => ?_⟩
    have e0 := (show b.eval (.tmp 4) = .pointer (some ⟨rb, 0, none⟩) from (h.old 4 (by decide)).trans h4)
    have ec : ∀ v, b.eval (.const v) = v := fun _ => rfl
    refine ⟨_, by simp only [List.getElem?_toArray, List.getElem?_cons_succ, List.getElem?_cons_zero]; rfl, .inl ⟨(wanted_none rfl), ?_⟩⟩
    obtain ⟨ρ, hρ⟩ : ∃ ρ, b.eval = ρ := ⟨_, rfl⟩
    rw [hρ] at e0 ec ⊢
    unfold execOp; simp [go_sem, e0, ec]
  · refine ⟨⟨27, rfl⟩, .inl rfl, fun b p s g hs hlow hS h => ?_⟩
    have e0 := (show b.eval (.tmp 26) = .pointer (some ⟨rb, 0, none⟩) from h.rd 5 _ _ 26 (by kernel_rfl) rfl rfl)
    have ec : ∀ v, b.eval (.const v) = v := fun _ => rfl
    refine ⟨_, by simp only [List.getElem?_toArray, List.getElem?_cons_succ, List.getElem?_cons_zero]; rfl, .inl ⟨(wanted_none rfl), ?_⟩⟩
    obtain ⟨ρ, hρ⟩ : ∃ ρ, b.eval = ρ := ⟨_, rfl⟩
    rw [hρ] at e0 ec ⊢
    unfold execOp; simp [go_sem, e0, ec]
  · refine ⟨⟨28, rfl⟩, .inl rfl, fun b p s g hs hlow hS h => ?_⟩
    have e0 := (show b.eval (.tmp 27) = .pointer (some ⟨rb, 0, none⟩) from h.rd 6 _ _ 27 (by kernel_rfl) rfl rfl)
    have ec : ∀ v, b.eval (.const v) = v := fun _ => rfl
    refine ⟨_, by simp only [List.getElem?_toArray, List.getElem?_cons_succ, List.getElem?_cons_zero]; rfl, .inl ⟨(wanted_none rfl), ?_⟩⟩
    obtain ⟨ρ, hρ⟩ : ∃ ρ, b.eval = ρ := ⟨_, rfl⟩
    rw [hρ] at e0 ec ⊢
    unfold execOp; simp [go_sem, e0, ec]
  · refine ⟨⟨29, rfl⟩, .inl rfl, fun b p s g hs hlow hS h => ?_⟩
    have e0 := (show b.eval (.tmp 28) = .pointer (some ⟨rb, 2, none⟩) from h.rd 7 _ _ 28 (by kernel_rfl) rfl rfl)
    obtain ⟨hf, q0⟩ := hS
    have c0 := (show p.cell? ⟨rb, 2, none⟩ = some (.int .i64 (long : Int)) from ((hR.keep0 hf).cell 2))
    have ec : ∀ v, b.eval (.const v) = v := fun _ => rfl
    refine ⟨_, by simp only [List.getElem?_toArray, List.getElem?_cons_succ, List.getElem?_cons_zero]; rfl, .inl ⟨(wanted_none rfl), ?_⟩⟩
    obtain ⟨ρ, hρ⟩ : ∃ ρ, b.eval = ρ := ⟨_, rfl⟩
    rw [hρ] at e0 ec ⊢
    unfold execOp; simp [go_sem, e0, ec, c0]
  · refine ⟨⟨2, rfl⟩, ⟨4, rfl, by kernel_rfl⟩, fun b p s g hlow hS h => ?_⟩
    have e0 := (show b.eval (.tmp 25) = g 0 from h.gh 4 _ 25 (by kernel_rfl) rfl rfl)
    refine ⟨_, by simp only [List.getElem?_toArray, List.getElem?_cons_succ, List.getElem?_cons_zero]; rfl, (wanted_none rfl), ?_⟩
    obtain ⟨ρ, hρ⟩ : ∃ ρ, b.eval = ρ := ⟨_, rfl⟩
    rw [hρ] at e0 ⊢
    unfold execOp; simp [go_sem, e0]
  · refine ⟨⟨3, rfl⟩, .inl rfl, fun b p s g hs hlow hS h => ?_⟩
    have e0 := (show b.eval (.tmp 29) = .int .i64 (long : Int) from h.rd 8 _ _ 29 (by kernel_rfl) rfl rfl)
    have ec : ∀ v, b.eval (.const v) = v := fun _ => rfl
    refine ⟨_, by simp only [List.getElem?_toArray, List.getElem?_cons_succ, List.getElem?_cons_zero]; rfl, .inl ⟨(wanted_none rfl), ?_⟩⟩
    obtain ⟨ρ, hρ⟩ : ∃ ρ, b.eval = ρ := ⟨_, rfl⟩
    rw [hρ] at e0 ec ⊢
    unfold execOp; simp [go_sem, e0, ec]
  · intro b p h1 h2 h3 h4 h5
    obtain ⟨g, h4, h6⟩ := h4
    have r3 : slot b 3 = .int .i64 (long : Int) := h5 10 (.int .i64 (long : Int)) _ 3 rfl rfl
    obtain ⟨hf, q0⟩ := h4
    have g2 : slot b 2 = g 0 := h6 9 0 2 (.inr rfl) rfl
    exact hQ b p h1 (h2.trans hsz) (fun s hs => h3 s (fun hm => hs (by simpa using hm))) r3 (by rw [g2]; exact q0 (by decide)) hf
end Go.Proofs.YtmohiblgfmdkjaaDoor
namespace Go.Proofs.YtmohiblgfmdkjaaDoor
open Go.RowKit Go.Bl
set_option linter.unusedVariables false

/-- the register in memory -/
def regC (tb : Nat) (nv ov : Value) (t : BS) : Array Value := #[.pointer (some ⟨tb, 0, none⟩), nv, .int .i64 (t.long : Int), ov, .int .u8 (t.gap.toNat : Int), .int .i64 (t.since : Int)]
def RegM (w : World) (rb tb : Nat) (t : BS) : Prop :=
  ∃ (nb no nc : Nat) (oa : Option Addr) (oc : Nat), At w rb (.cells (regC tb (.slice (some ⟨nb, no, none⟩) t.now.length nc) (.slice oa t.old.length oc) t) 196) ∧ At w tb (.cells tabF 171) ∧
    Bs (fun b => b = rb) w (.slice (some ⟨nb, no, none⟩) t.now.length nc) t.now ∧ Bs (fun b => b = rb) w (.slice oa t.old.length oc) t.old ∧ rb ≠ tb
/-- the sum as far as j -/
def accJ (s now : List UInt8) (i j : Nat) : UInt8 := xsum j fun t => gmul (cf now t) (cf s (i - t))
theorem accJ_step (s now : List UInt8) (i j : Nat) : accJ s now i (j + 1) = accJ s now i j ^^^ gmul (cf now j) (cf s (i - j)) := rfl
theorem accJ_one (s now : List UInt8) (i : Nat) (h : cf now 0 = 1) : accJ s now i 1 = cf s i := by
  show (0 : UInt8) ^^^ gmul (cf now 0) (cf s (i - 0)) = _
  rw [h, one_gmul, Nat.sub_zero, UInt8.zero_xor]
theorem accJ_end (s now : List UInt8) (i j L : Nat) (h : j ≤ L + 1) (h2 : j = L + 1 ∨ now.length ≤ j) : accJ s now i j = disc (cf s) (cf now) L i := by
  unfold accJ disc
  rcases h2 with rfl | h2
  · rfl
  · exact (xsum_more h fun t ht _ => by rw [cf_ge (by omega), zero_gmul]).symm

set_option maxRecDepth 100000 in
set_option maxHeartbeats 4000000 in
theorem gap_any (w : World) (rb tb i : Nat) (sv : Value) (s : List UInt8) (t : BS) (hM : RegM w rb tb t) (hs : Bs (fun _ => False) w sv s) (h0 : cf t.now 0 = 1) (h1 : 1 ≤ t.now.length) (hi : i < s.length) (hli : t.long ≤ i) (hsl : s.length ≤ 1000) (hnl : t.now.length ≤ 1000) :
    Calls Tryd.prog 130 #[.pointer (some ⟨rb, 0, none⟩), sv, .int .i64 i] w fun e w' => e = .returned (.int .u8 ((bsGap s i t).toNat : Int)) ∧ Fr [] w w' := by
  obtain ⟨nb, no, nc, oa, oc, hR, hT, hn, ho, -⟩ := hM
  obtain ⟨z, hz⟩ : ∃ z, s[i]? = some z := ⟨_, List.getElem?_eq_getElem hi⟩
  have HS := Lib.hid hs
  obtain ⟨sa, sc, rfl, s2, s3, -⟩ := hs
  obtain ⟨sb, so, rfl, hcz⟩ := bs_cell HS.out i z hz
  unfold maxLen at s3
  have HE := Lib.hid (accJ_end s t.now i)
  have HA := Lib.hid (accJ_step s t.now i)
  have H1 := Lib.hid (show accJ s t.now i 1 = z by rw [accJ_one _ _ _ h0, cf_get hz])
  have HG := Lib.hid (show bsGap s i t = disc (cf s) (cf t.now) t.long i from rfl)
  obtain ⟨acc, hacc⟩ : ∃ acc, accJ s t.now i = acc := ⟨_, rfl⟩
  rw [hacc] at HE HA H1
  have HN := Lib.hid hn
  have HR := Lib.hid hR
  have HT := Lib.hid hT
  obtain ⟨SN, hSN⟩ : ∃ n, s.length = n := ⟨_, rfl⟩
  obtain ⟨NL, hNL⟩ : ∃ n, t.now.length = n := ⟨_, rfl⟩
  have HSN := Lib.hid hSN
  have HNL := Lib.hid hNL
  obtain ⟨G, hG⟩ : ∃ G, bsGap s i t = G := ⟨_, rfl⟩
  rw [hG] at HG ⊢
  rw [hSN] at s2 HS hi hsl ⊢
  rw [hNL] at HR HN h1 hnl HE
  unfold regC at HR
  obtain ⟨L, hL⟩ : ∃ L, t.long = L := ⟨_, rfl⟩
  rw [hL] at HR hli HG
  obtain ⟨GV, hGV⟩ : ∃ x, t.gap = x := ⟨_, rfl⟩
  obtain ⟨SI, hSI⟩ : ∃ x, t.since = x := ⟨_, rfl⟩
  rw [hGV, hSI] at HR
  clear hSN hNL hG hL hacc hn hR hT ho hz h0 hGV hSI
  have q0 := fun z : Kin w => cell_mono z.fr hcz
  go_enter Tryd.func130, Tryd.ntmps130
  go_wp2
  go_loopw [7, 8] (fun d j wr => ∃ jj : Nat, 1 ≤ jj ∧ jj ≤ L + 1 ∧ j = .int .i64 jj ∧ d = .int .u8 ((acc jj).toNat : Int) ∧ Hid (Fr [] w wr)) (fun _ j _ => L + 1 - (intOf j).toNat)
  case atStart => exact ⟨1, Nat.le_refl _, by omega, rfl, by rw [H1.out], Lib.hid (Fr.refl _ _)⟩
  case round =>
    clear q0 hcz
    obtain ⟨j, hj1, hj, rfl, rfl, HF⟩ := hrel
    have c2 := (HR.out.keep0 HF.out).cell 2
    have c1 := (HR.out.keep0 HF.out).cell 1
    simp only [List.getElem?_toArray, List.getElem?_cons_succ, List.getElem?_cons_zero] at c1 c2
    by_cases hjl : j ≤ L
    · have hjli : (j : Int) ≤ L := by omega
      by_cases hjn : j < NL
      · have hjni : (j : Int) < NL := by omega
        obtain ⟨x, hx⟩ : ∃ x, t.now[j]? = some x := ⟨_, List.getElem?_eq_getElem (by have := HNL.out; omega)⟩
        obtain ⟨y, hy⟩ : ∃ y, s[i - j]? = some y := ⟨_, List.getElem?_eq_getElem (by have := HSN.out; omega)⟩
        obtain ⟨b', o', e, hcx⟩ := bs_cell HN.out j x hx
        cases e
        obtain ⟨b', o', e, hcy⟩ := bs_cell HS.out (i - j) y hy
        cases e
        have HST := Lib.hid (show acc (j + 1) = acc j ^^^ gmul x y by rw [HA.out, cf_get hx, cf_get hy])
        obtain ⟨D, hD⟩ : ∃ D, acc j = D := ⟨_, rfl⟩
        rw [hD] at HST ⊢
        have HCX := Lib.hid (cell_mono HF.out hcx)
        have HCY := Lib.hid (cell_mono HF.out hcy)
        clear hx hy hcx hcy hD
        go_wp2_with fail
        refine gap_reg wr _ rfl rb tb nb no NL nc sb so SN sc i j oa t.old.length oc L SI D x y GV (HR.out.keep0 HF.out) (HT.out.keep0 HF.out) hjn (by omega) hi (by omega) HCX.out HCY.out rfl rfl rfl rfl rfl _ ?_
        intro b p k1 k2 k3 k4 hf
        obtain ⟨f, hb⟩ := putsX b _ _ k1 k2 k3
        have hf7 : f 7 = .int .u8 ((D ^^^ gmul x y).toNat : Int) := by
          rw [hb] at k4
          simpa [slot, Go.Act.put] using k4
        have HF2 := Lib.hid (HF.out.trans hf)
        clear k1 k2 k3 k4 hf HF HCX HCY c1 c2
        subst hb
        simp only [List.foldl_cons, List.foldl_nil, Go.Act.put, List.setIfInBounds_toArray, List.set_cons_succ, List.set_cons_zero, hf7]
        go_wp2
        go_roundw
        case rel => exact ⟨j + 1, by omega, by omega, by go_num, by rw [HST.out], HF2⟩
        case measure => simp [intOf]; omega
      · have hjni : ¬ (j : Int) < NL := by omega
        have HX := Lib.hid (show acc j = G by rw [HE.out j L (by omega) (.inr (by omega)), HG.out])
        go_wp2
        go_ret
        exact ⟨by rw [HX.out]; rfl, HF.out⟩
    · have hjli : ¬ (j : Int) ≤ L := by omega
      have HX := Lib.hid (show acc j = G by rw [HE.out j L (by omega) (.inl (by omega)), HG.out])
      go_wp2
      go_ret
      exact ⟨by rw [HX.out]; rfl, HF.out⟩

theorem own_bs_at {w : World} {base : Nat} {v : Value} {xs : List UInt8} (rb : Nat) (h : OwnB 5 base w v xs) (hb : rb < base) : Bs (fun b => b = rb) w v xs := h.bs (fun b e => by omega)

set_option maxRecDepth 100000 in
set_option maxHeartbeats 8000000 in
theorem step_any (w : World) (rb tb i : Nat) (sv : Value) (s : List UInt8) (t : BS) (hM : RegM w rb tb t) (hI : BSI s i t) (hs : Bs (fun b => b = rb) w sv s) (hi : i < s.length) (hsl : s.length ≤ 100) :
    Calls Tryd.prog 107 #[.pointer (some ⟨rb, 0, none⟩), sv, .int .i64 i] w fun e w' => e = .returned (.tuple #[]) ∧ RegM w' rb tb (bsStep s i t) ∧ Fr [rb] w w' := by
  have hle := hI.bm.le
  have HGA := Lib.hid (gap_any w rb tb i sv s t hM (hs.mono (A' := fun _ => False) (Fr.refl [] w) (by simp) (fun _ h => h.elim)) hI.bm.c0 hI.n1 hi hle (by omega) (by have := hI.ln; omega))
  have HST := Lib.hid (show bsStep s i t = if bsGap s i t = 0 then { t with since := t.since + 1 } else if i < 2 * t.long then { t with now := bsNext s i t, since := t.since + 1 } else ⟨bsNext s i t, t.now, i + 1 - t.long, bsGap s i t, 1⟩ from rfl)
  have HNX := Lib.hid (show bsNext s i t = padd t.now (pshift (pscale t.old (gmul (bsGap s i t) (ginv t.gap))) t.since) from rfl)
  have hb1 := hI.ln
  have hb2 := hI.lo
  have hb3 := hI.si
  have HNI := Lib.hid (bsRun_inv s (i + 1))
  have hnx1 : bsGap s i t ≠ 0 → 1 ≤ (bsNext s i t).length := fun hd => by
    have h := (hI.bm.step hd).c0
    have hg : disc (cf s) (cf t.now) t.long i = bsGap s i t := rfl
    rw [hg, ← cf_next] at h
    rcases Nat.eq_zero_or_pos (bsNext s i t).length with h0 | h0
    · rw [cf_ge (by omega)] at h; cases h
    · exact h0
  have HN1 := Lib.hid hnx1
  clear hnx1
  obtain ⟨nb, no, nc, oa, oc, hR, hT, hn, ho, hrt⟩ := hM
  obtain ⟨t_now, t_old, t_long, t_gap, t_since⟩ := t
  simp only at hR hT hn ho hrt hb1 hb2 hb3 hle HST HNX HGA HN1
  unfold regC at hR
  simp only at hR
  obtain ⟨G, hG⟩ : ∃ G, bsGap s i ⟨t_now, t_old, t_long, t_gap, t_since⟩ = G := ⟨_, rfl⟩
  obtain ⟨NX, hNX⟩ : ∃ NX, bsNext s i ⟨t_now, t_old, t_long, t_gap, t_since⟩ = NX := ⟨_, rfl⟩
  obtain ⟨ST, hST⟩ : ∃ ST, bsStep s i ⟨t_now, t_old, t_long, t_gap, t_since⟩ = ST := ⟨_, rfl⟩
  rw [hG] at HGA HST HNX HN1
  rw [hNX] at HNX HST HN1
  rw [hST] at HST ⊢
  have HR := Lib.hid hR
  have HT := Lib.hid hT
  have HN := Lib.hid hn
  have HO := Lib.hid ho
  obtain ⟨sa, sc, rfl, s2, s3, -⟩ := id hs
  unfold maxLen at s3
  obtain ⟨NL, hNL⟩ : ∃ n, t_now.length = n := ⟨_, rfl⟩
  obtain ⟨OL, hOL⟩ : ∃ n, t_old.length = n := ⟨_, rfl⟩
  obtain ⟨SN, hSN⟩ : ∃ n, s.length = n := ⟨_, rfl⟩
  have HNL := Lib.hid hNL
  have HOL := Lib.hid hOL
  rw [hNL] at HR HN hb1
  rw [hOL] at HR HO hb2
  rw [hSN] at hi hsl s2 HGA ⊢
  clear hG hNX hST hNL hOL hSN hR hT hn ho hs hI HNI
  have hrl := HR.out.lt
  have c0 := HR.out.cell 0
  go_enter Tryd.func107, Tryd.ntmps107
  go_wp2_with fail
  refine HGA.out.mono ?_
  rintro e w1 ⟨rfl, hf⟩
  have HR1 := Lib.hid (HR.out.keep0 hf)
  have HT1 := Lib.hid (HT.out.keep0 hf)
  have HN1' := Lib.hid (HN.out.keep hf (by simp))
  have HO1 := Lib.hid (HO.out.keep hf (by simp))
  have HF1 := Lib.hid (show Fr [rb] w w1 from hf.weak)
  have hrl1 := HR1.out.lt
  clear hf HR HT HN HO HGA c0
  have c2 := HR1.out.cell 2
  have c5 := HR1.out.cell 5
  simp only [List.getElem?_toArray, List.getElem?_cons_succ, List.getElem?_cons_zero] at c2 c5
  by_cases hg0 : G = 0
  · subst hg0
    have HX := Lib.hid (HST.out.trans (if_pos rfl))
    go_wp2_with (refine wpl_store_one (.tmp 21) (.tmp 19) rfl rfl (.int .i64 ((t_since : Int) + 1)) rfl (by go_num) HR1.out (by simp) (by kernel_rfl) rfl ?_)
    intro w2 f2 a2 _
    have HM2 := Lib.hid (show RegM w2 rb tb ST by
      rw [HX.out]
      refine ⟨nb, no, nc, oa, oc, ?_, HT1.out.keep f2 (by simpa using Ne.symm hrt), ?_, ?_, hrt⟩
      · simp only [regC, HNL.out, HOL.out]
        simpa using a2
      · rw [show (_ : BS).now.length = NL from HNL.out]; exact HN1'.out.keep f2 (by simp)
      · rw [show (_ : BS).old.length = OL from HOL.out]; exact HO1.out.keep f2 (by simp))
    have HF2 := Lib.hid (HF1.out.trans f2)
    clear f2 a2
    go_wp2
    (try simp only [Exit.inBlock, Exit.then])
    refine bodyPost_ret (results_none rfl _ _ _) rfl ?_
    exact ⟨rfl, HM2.out, HF2.out⟩
  · have hg0u : ((G.toNat : Int) == 0) = false := by rw [beq_eq_false_iff_ne]; intro e; exact hg0 (UInt8.toNat_inj.1 (show G.toNat = 0 by omega))
    have HN1b := Lib.hid (HN1.out hg0)
    obtain ⟨Q, hQ⟩ : ∃ Q, gmul G (ginv t_gap) = Q := ⟨_, rfl⟩
    rw [hQ] at HNX
    have HQ := Lib.hid hQ
    clear hQ
    go_wp2_with fail
    refine step_div w1 _ rfl rb tb NL nc OL oc t_long t_since (some ⟨nb, no, none⟩) oa G t_gap HR1.out HT1.out rfl rfl _ ?_
    intro b p k1 k2 k3 k4 hf
    obtain ⟨f, hb⟩ := putsX b _ _ k1 k2 k3
    have hf7 : f 7 = .int .u8 (Q.toNat : Int) := by
      rw [hb] at k4
      rw [← HQ.out]
      simpa [slot, Go.Act.put] using k4
    have HR2 := Lib.hid (HR1.out.keep0 hf)
    have HT2 := Lib.hid (HT1.out.keep0 hf)
    have HN2 := Lib.hid (HN1'.out.keep hf (by simp))
    have HO2 := Lib.hid (HO1.out.keep hf (by simp))
    have HF2 := Lib.hid (HF1.out.trans hf.weak)
    have hrl2 := HR2.out.lt
    clear k1 k2 k3 k4 hf HR1 HT1 HN1' HO1 HF1 c2 c5
    subst hb
    simp only [List.foldl_cons, List.foldl_nil, Go.Act.put, List.setIfInBounds_toArray, List.set_cons_succ, List.set_cons_zero, hf7]
    go_wp2_with fail
    refine step_next p _ rfl rb tb NL nc OL oc t_long t_since (some ⟨nb, no, none⟩) oa Q t_gap t_now t_old HR2.out (HN2.out.mono (A' := fun _ => False) (Fr.refl [] p) (by simp) (fun _ h => h.elim)) (HO2.out.mono (A' := fun _ => False) (Fr.refl [] p) (by simp) (fun _ h => h.elim)) (by have := HNL.out; omega) (by have := HOL.out; omega) (by omega) rfl rfl _ ?_
    intro b p2 k1 k2 k3 k4 hf
    obtain ⟨f, hb⟩ := putsX b _ _ k1 k2 k3
    have hs8 : slot b 8 = f 8 := by
      rw [hb]
      simp [slot, Go.Act.put]
    rw [hs8, ← HNX.out] at k4
    obtain ⟨nv, hnv⟩ : ∃ nv, f 8 = nv := ⟨_, rfl⟩
    rw [hnv] at k4
    have hlx := HN1b.out
    obtain ⟨g, gc, rfl, hg1, hg2, hg3, -⟩ := k4.shape (by omega)
    have HV := Lib.hid (own_bs_at rb k4 (by omega))
    have HR3 := Lib.hid (HR2.out.keep0 hf)
    have HT3 := Lib.hid (HT2.out.keep0 hf)
    have HN3 := Lib.hid (HN2.out.keep hf (by simp))
    have HO3 := Lib.hid (HO2.out.keep hf (by simp))
    have HF3 := Lib.hid (HF2.out.trans hf.weak)
    obtain ⟨XL, hXL⟩ : ∃ n, NX.length = n := ⟨_, rfl⟩
    have HXL := Lib.hid hXL
    rw [hXL] at HV hnv
    clear k1 k2 k3 k4 hf HR2 HT2 HN2 HO2 HF2 hg1 hg2 hg3 hs8 hXL hlx
    subst hb
    simp only [List.foldl_cons, List.foldl_nil, Go.Act.put, List.setIfInBounds_toArray, List.set_cons_succ, List.set_cons_zero, hnv]
    clear hnv
    have d1 := HR3.out.cell 1
    have d2 := HR3.out.cell 2
    have d5 := HR3.out.cell 5
    simp only [List.getElem?_toArray, List.getElem?_cons_succ, List.getElem?_cons_zero] at d1 d2 d5
    by_cases h2L : i < 2 * t_long
    · have h2i : (i : Int) < 2 * (t_long : Int) := by omega
      have HX := Lib.hid ((HST.out.trans (if_neg hg0)).trans (if_pos h2L))
      go_wp2_with (refine wpl_store_one (.tmp 58) (.tmp 56) rfl rfl (.slice (some ⟨g, 0, none⟩) XL gc) rfl rfl HR3.out (by simp) (by kernel_rfl) rfl ?_)
      intro w4 f4 a4 _
      have HR4 := Lib.hid a4
      have HT4 := Lib.hid (HT3.out.keep f4 (by simpa using Ne.symm hrt))
      have HO4 := Lib.hid (HO3.out.keep f4 (by simp))
      have HV4 := Lib.hid (HV.out.keep f4 (by simp))
      have HF4 := Lib.hid (HF3.out.trans f4)
      clear f4 a4 HR3 HT3 HN3 HO3 HV HF3 d1 d2 d5
      have e5 := HR4.out.cell 5
      simp only [List.getElem?_toArray, List.getElem?_cons_succ, List.getElem?_cons_zero] at e5
      go_wp2_with (refine wpl_store_one (.tmp 65) (.tmp 63) rfl rfl (.int .i64 ((t_since : Int) + 1)) rfl (by go_num) HR4.out (by simp) (by kernel_rfl) rfl ?_)
      intro w5 f5 a5 _
      have HM2 := Lib.hid (show RegM w5 rb tb ST by
        rw [HX.out]
        refine ⟨g, 0, gc, oa, oc, ?_, HT4.out.keep f5 (by simpa using Ne.symm hrt), ?_, ?_, hrt⟩
        · simp only [regC, HXL.out, HOL.out]
          simpa using a5
        · rw [show (_ : BS).now.length = XL from HXL.out]; exact HV4.out.keep f5 (by simp)
        · rw [show (_ : BS).old.length = OL from HOL.out]; exact HO4.out.keep f5 (by simp))
      have HF5 := Lib.hid (HF4.out.trans f5)
      clear f5 a5
      go_wp2
      (try simp only [Exit.inBlock, Exit.then])
      refine bodyPost_ret (results_none rfl _ _ _) rfl ?_
      exact ⟨rfl, HM2.out, HF5.out⟩
    · have h2i : ¬ (i : Int) < 2 * (t_long : Int) := by omega
      have HX := Lib.hid ((HST.out.trans (if_neg hg0)).trans (if_neg h2L))
      have hsub : (i : Int) + 1 - (t_long : Int) = ((i + 1 - t_long : Nat) : Int) := by omega
      go_wp2_with (refine wpl_store_one (.tmp 75) (.tmp 72) rfl rfl (.slice (some ⟨nb, no, none⟩) NL nc) rfl rfl HR3.out (by simp) (by kernel_rfl) rfl ?_)
      intro w4 f4 a4 _
      have HR4 := Lib.hid a4
      have HT4 := Lib.hid (HT3.out.keep f4 (by simpa using Ne.symm hrt))
      have HN4 := Lib.hid (HN3.out.keep f4 (by simp))
      have HV4 := Lib.hid (HV.out.keep f4 (by simp))
      have HF4 := Lib.hid (HF3.out.trans f4)
      clear f4 a4 HR3 HT3 HN3 HO3 HV HF3 d1 d2 d5
      go_wp2_with (refine wpl_store_one (.tmp 77) (.tmp 73) rfl rfl (.int .u8 (G.toNat : Int)) rfl rfl HR4.out (by simp) (by kernel_rfl) rfl ?_)
      intro w5 f5 a5 _
      have HR5 := Lib.hid a5
      have HT5 := Lib.hid (HT4.out.keep f5 (by simpa using Ne.symm hrt))
      have HN5 := Lib.hid (HN4.out.keep f5 (by simp))
      have HV5 := Lib.hid (HV4.out.keep f5 (by simp))
      have HF5 := Lib.hid (HF4.out.trans f5)
      clear f5 a5 HR4 HT4 HN4 HV4 HF4
      go_wp2_with (refine wpl_store_one (.tmp 79) (.const (.int .i64 1)) rfl rfl (.int .i64 1) rfl rfl HR5.out (by simp) (by kernel_rfl) rfl ?_)
      intro w6 f6 a6 _
      have HR6 := Lib.hid a6
      have HT6 := Lib.hid (HT5.out.keep f6 (by simpa using Ne.symm hrt))
      have HN6 := Lib.hid (HN5.out.keep f6 (by simp))
      have HV6 := Lib.hid (HV5.out.keep f6 (by simp))
      have HF6 := Lib.hid (HF5.out.trans f6)
      clear f6 a6 HR5 HT5 HN5 HV5 HF5
      have e2 := HR6.out.cell 2
      simp only [List.getElem?_toArray, List.getElem?_cons_succ, List.getElem?_cons_zero] at e2
      go_wp2_with (refine wpl_store_one (.tmp 91) (.tmp 82) rfl rfl (.slice (some ⟨g, 0, none⟩) XL gc) rfl rfl HR6.out (by simp) (by kernel_rfl) rfl ?_)
      intro w7 f7 a7 _
      have HR7 := Lib.hid a7
      have HT7 := Lib.hid (HT6.out.keep f7 (by simpa using Ne.symm hrt))
      have HN7 := Lib.hid (HN6.out.keep f7 (by simp))
      have HV7 := Lib.hid (HV6.out.keep f7 (by simp))
      have HF7 := Lib.hid (HF6.out.trans f7)
      clear f7 a7 HR6 HT6 HN6 HV6 HF6 e2
      go_wp2_with (refine wpl_store_one (.tmp 93) (.tmp 89) rfl rfl (.int .i64 ((i + 1 - t_long : Nat) : Int)) rfl (by go_num) HR7.out (by simp) (by kernel_rfl) rfl ?_)
      intro w8 f8 a8 _
      have HM2 := Lib.hid (show RegM w8 rb tb ST by
        rw [HX.out]
        refine ⟨g, 0, gc, some ⟨nb, no, none⟩, nc, ?_, HT7.out.keep f8 (by simpa using Ne.symm hrt), ?_, ?_, hrt⟩
        · simp only [regC, HXL.out, HNL.out]
          simpa using a8
        · rw [show (_ : BS).now.length = XL from HXL.out]; exact HV7.out.keep f8 (by simp)
        · rw [show (_ : BS).old.length = NL from HNL.out]; exact HN7.out.keep f8 (by simp))
      have HF8 := Lib.hid (HF7.out.trans f8)
      clear f8 a8
      go_wp2
      go_end0
      exact ⟨rfl, HM2.out, HF8.out⟩

set_option maxRecDepth 100000 in
set_option maxHeartbeats 4000000 in
theorem register_any (w : World) (sv : Value) (s : List UInt8) (hs : Bs (fun _ => False) w sv s) (hl : s.length ≤ 100) :
    Calls Tryd.prog 84 #[sv] w fun e w' => ∃ u, e = .returned (.tuple #[u, .int .i64 (regL s : Int)]) ∧ OwnB 5 w.heap.size w' u (regP s) ∧ Fr [] w w' := by
  have HS := Lib.hid hs
  have HL := Lib.hid (show regL s = (bsRun s s.length).long from rfl)
  have HP := Lib.hid (show regP s = ptrim (bsRun s s.length).now from rfl)
  have HI := Lib.hid (bsRun_inv s)
  have HR := Lib.hid (show ∀ i, bsRun s (i + 1) = bsStep s i (bsRun s i) from fun i => rfl)
  have H0 := Lib.hid (show bsRun s 0 = bs0 from rfl)
  obtain ⟨sa, sc, rfl, s2, s3, -⟩ := hs
  unfold maxLen at s3
  obtain ⟨SN, hSN⟩ : ∃ n, s.length = n := ⟨_, rfl⟩
  have HSN := Lib.hid hSN
  rw [hSN] at HS hl s2 HL HP ⊢
  clear hSN
  obtain ⟨R, hR⟩ : ∃ R, bsRun s = R := ⟨_, rfl⟩
  rw [hR] at HL HP HI HR H0
  obtain ⟨LL, hLL⟩ : ∃ n, regL s = n := ⟨_, rfl⟩
  rw [hLL] at HL ⊢
  clear hR hLL
  go_enter Tryd.func84, Tryd.ntmps84
  go_wp2_with fail
  refine (make_any _).mono ?_
  rintro e w1 ⟨rfl, hT, hf⟩
  have HT1 := Lib.hid hT
  have HF1 := Lib.hid hf
  have hlt1 := hT.lt
  obtain ⟨tb, htb⟩ : ∃ tb, w.heap.size = tb := ⟨_, rfl⟩
  have HTB := Lib.hid htb
  rw [htb] at HT1 hlt1 ⊢
  obtain ⟨B1, hB1⟩ : ∃ B1, w1.heap.size = B1 := ⟨_, rfl⟩
  rw [hB1] at hlt1
  clear hT hf htb
  have HM := Lib.hid (show RegM (((w1.alloc (.cells #[.int .u8 1] 5)).alloc (.cells #[.int .u8 1] 5)).alloc (.cells #[.pointer (some ⟨tb, 0, none⟩), .slice (some ⟨B1, 0, none⟩) 1 1, .int .i64 0, .slice (some ⟨B1 + 1, 0, none⟩) 1 1, .int .u8 1, .int .i64 1] 196)) (B1 + 1 + 1) tb (R 0) by
    rw [H0.out]
    have hsz : ((w1.alloc (.cells #[.int .u8 1] 5)).alloc (.cells #[.int .u8 1] 5)).heap.size = B1 + 1 + 1 := by simp [hB1]
    refine ⟨B1, 0, 1, some ⟨B1 + 1, 0, none⟩, 1, At.new hsz.symm, ((HT1.out.al).al).al, ?_, ?_, by omega⟩
    · have h : At (((w1.alloc (.cells #[.int .u8 1] 5)).alloc (.cells #[.int .u8 1] 5)).alloc (.cells #[.pointer (some ⟨tb, 0, none⟩), .slice (some ⟨B1, 0, none⟩) 1 1, .int .i64 0, .slice (some ⟨B1 + 1, 0, none⟩) 1 1, .int .u8 1, .int .i64 1] 196)) B1 (.cells #[.int .u8 1] 5) := ((At.new hB1.symm).al).al
      exact ⟨_, 1, rfl, Nat.le_refl _, by simp [maxLen], Row.of_block (c := #[.int .u8 1]) h (by omega)⟩
    · have h : At (((w1.alloc (.cells #[.int .u8 1] 5)).alloc (.cells #[.int .u8 1] 5)).alloc (.cells #[.pointer (some ⟨tb, 0, none⟩), .slice (some ⟨B1, 0, none⟩) 1 1, .int .i64 0, .slice (some ⟨B1 + 1, 0, none⟩) 1 1, .int .u8 1, .int .i64 1] 196)) (B1 + 1) (.cells #[.int .u8 1] 5) := (At.new (by simp [hB1])).al
      exact ⟨_, 1, rfl, Nat.le_refl _, by simp [maxLen], Row.of_block (c := #[.int .u8 1]) h (by omega)⟩)
  have HF := Lib.hid (show Fr [] w (((w1.alloc (.cells #[.int .u8 1] 5)).alloc (.cells #[.int .u8 1] 5)).alloc (.cells #[.pointer (some ⟨tb, 0, none⟩), .slice (some ⟨B1, 0, none⟩) 1 1, .int .i64 0, .slice (some ⟨B1 + 1, 0, none⟩) 1 1, .int .u8 1, .int .i64 1] 196)) from ((HF1.out.al).al).al)
  have hrbw : w.heap.size ≤ B1 + 1 + 1 := by have := HTB.out; omega
  clear HT1 HF1
  go_wp2
  clear hB1
  go_loopw [13] (fun i wr => ∃ k : Nat, k ≤ SN ∧ i = .int .i64 k ∧ Hid (RegM wr (B1 + 1 + 1) tb (R k)) ∧ Hid (Fr [] w wr)) (fun i _ => SN - (intOf i).toNat)
  case atStart => exact ⟨0, Nat.zero_le _, rfl, HM, HF⟩
  case round =>
    clear HM HF
    obtain ⟨k, hk, rfl, HM, HF⟩ := hrel
    by_cases hkn : k < SN
    · have HSS := Lib.hid (HS.out.mono (A' := fun b => b = B1 + 1 + 1) HF.out (by simp) (fun b h => .inr (by omega)))
      go_wp2_with fail
      refine (step_any wr (B1 + 1 + 1) tb k _ s (R k) HM.out (HI.out k) HSS.out (by rw [HSN.out]; exact hkn) (by rw [HSN.out]; exact hl)).mono ?_
      rintro e w2 ⟨rfl, hm, hf⟩
      have HM2 := Lib.hid (show RegM w2 (B1 + 1 + 1) tb (R (k + 1)) by rw [HR.out]; exact hm)
      have HF2 := Lib.hid (HF.out.then hf (by intro b hb; simp at hb; omega))
      clear hm hf HM HF HSS
      go_wp2
      go_roundw
      case rel => exact ⟨k + 1, by omega, by go_num, HM2, HF2⟩
      case measure => simp [intOf]; omega
    · obtain rfl : k = SN := by omega
      obtain ⟨nb, no, nc, oa, oc, hR, hT, hn, ho, hrt⟩ := HM.out
      have hI := HI.out k
      have h1 := hI.n1
      have hle := hI.bm.le
      have hln := hI.ln
      obtain ⟨RK, hRK⟩ : ∃ t, R k = t := ⟨_, rfl⟩
      rw [hRK] at hR hn ho h1 hle hln HP HL
      have HR4 := Lib.hid hR
      have HN4 := Lib.hid hn
      unfold regC at HR4
      clear hR hT hn ho HM hI hRK
      have hne : RK.now ≠ [] := by intro e; rw [e] at h1; simp at h1
      go_wp2_with fail
      refine reg_end wr _ rfl (B1 + 1 + 1) tb RK.now.length nc RK.old.length oc RK.long RK.since (some ⟨nb, no, none⟩) oa RK.gap RK.now HR4.out (HN4.out.mono (A' := fun _ => False) (Fr.refl [] wr) (by simp) (fun _ h => h.elim)) hne (by omega) rfl _ ?_
      intro b p k1 k2 k3 k4 k5 hf
      have hs := HF.out.size
      have HO := Lib.hid (show OwnB 5 w.heap.size p (slot b 2) (regP s) by rw [HP.out]; exact k5.base hs)
      have HF2 := Lib.hid (HF.out.trans hf)
      rw [frame30 b k2 k1, k4]
      obtain ⟨u, hu⟩ : ∃ u, slot b 2 = u := ⟨_, rfl⟩
      rw [hu] at HO ⊢
      clear k1 k2 k3 k4 k5 hf hu
      go_wp2
      go_ret2
      exact ⟨_, by rw [HL.out]; rfl, HO.out, HF2.out⟩
end Go.Proofs.YtmohiblgfmdkjaaDoor
