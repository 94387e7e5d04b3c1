/-
  The law LocateFinds: its drawn region. (printed by genfnd.py)
-/
import Derived.Test.YtfblhdomjnffcaaDoorGB
import Derived.Test.YtfblhdomjnffcaaDoorStr
import Derived.Test.YtfblhdomjnffcaaDoorGD
namespace Go.Proofs.YtfblhdomjnffcaaDoor
open Go.RowKit Go.Bl
set_option linter.unusedVariables false
set_option maxRecDepth 100000 in
theorem frame127 (a : Go.Act) (hs : a.tmps.size = 127) (hd : a.defers = []) : a = ⟨(slot a 0 :: slot a 1 :: slot a 2 :: slot a 3 :: slot a 4 :: slot a 5 :: slot a 6 :: slot a 7 :: slot a 8 :: slot a 9 :: slot a 10 :: slot a 11 :: slot a 12 :: slot a 13 :: slot a 14 :: slot a 15 :: slot a 16 :: slot a 17 :: slot a 18 :: slot a 19 :: slot a 20 :: slot a 21 :: slot a 22 :: slot a 23 :: slot a 24 :: slot a 25 :: slot a 26 :: slot a 27 :: slot a 28 :: slot a 29 :: slot a 30 :: slot a 31 :: slot a 32 :: slot a 33 :: slot a 34 :: slot a 35 :: slot a 36 :: slot a 37 :: slot a 38 :: slot a 39 :: slot a 40 :: slot a 41 :: slot a 42 :: slot a 43 :: slot a 44 :: slot a 45 :: slot a 46 :: slot a 47 :: slot a 48 :: slot a 49 :: slot a 50 :: slot a 51 :: slot a 52 :: slot a 53 :: slot a 54 :: slot a 55 :: slot a 56 :: slot a 57 :: slot a 58 :: slot a 59 :: slot a 60 :: slot a 61 :: slot a 62 :: slot a 63 :: slot a 64 :: slot a 65 :: slot a 66 :: slot a 67 :: slot a 68 :: slot a 69 :: slot a 70 :: slot a 71 :: slot a 72 :: slot a 73 :: slot a 74 :: slot a 75 :: slot a 76 :: slot a 77 :: slot a 78 :: slot a 79 :: slot a 80 :: slot a 81 :: slot a 82 :: slot a 83 :: slot a 84 :: slot a 85 :: slot a 86 :: slot a 87 :: slot a 88 :: slot a 89 :: slot a 90 :: slot a 91 :: slot a 92 :: slot a 93 :: slot a 94 :: slot a 95 :: slot a 96 :: slot a 97 :: slot a 98 :: slot a 99 :: slot a 100 :: slot a 101 :: slot a 102 :: slot a 103 :: slot a 104 :: slot a 105 :: slot a 106 :: slot a 107 :: slot a 108 :: slot a 109 :: slot a 110 :: slot a 111 :: slot a 112 :: slot a 113 :: slot a 114 :: slot a 115 :: slot a 116 :: slot a 117 :: slot a 118 :: slot a 119 :: slot a 120 :: slot a 121 :: slot a 122 :: slot a 123 :: slot a 124 :: slot a 125 :: slot a 126 :: []).toArray, []⟩ := frameX a 127 hs hd

noncomputable def lfnd_regR : Code := ((Tryd.f5.body.bind (findRegionC 21)).getD .skip)
set_option maxRecDepth 1000000 in
set_option maxHeartbeats 8000000 in
theorem lfnd_reg (w : World) (a : Go.Act) (hsz : a.tmps.size = 127) (fb rl un uc en ec : Nat) (ua ea : Option Addr) (wv av : Value) (loc ev : List UInt8) (S1 S2 : ByteArray) (hS1 : (⟨loc.toArray⟩ : ByteArray) = S1) (hS2 : (⟨ev.toArray⟩ : ByteArray) = S2) (hc0 : w.cell? ⟨fb, 0, none⟩ = some (.int .i64 (rl : Int))) (hc1 : w.cell? ⟨fb, 1, none⟩ = some (.slice ua un uc)) (hc2 : w.cell? ⟨fb, 2, none⟩ = some (.slice ea en ec)) (hu : Bs (fun _ => False) w (.slice ua un uc) loc) (hw2 : Bs (fun _ => False) w wv loc) (he : Bs (fun _ => False) w (.slice ea en ec) ev) (htr : ∀ p, Fr [] w p → Calls Tryd.prog 27 #[av] p fun e w' => ∃ u, e = .returned u ∧ OwnB 5 p.heap.size w' u ev ∧ Fr [] p w') (h8 : slot a 8 = .nilIface) (h7 : slot a 7 = .pointer (some ⟨fb, 0, none⟩)) (h12 : slot a 12 = .int .i64 (rl : Int)) (h16 : slot a 16 = wv) (h17 : slot a 17 = av) (Q : Exit → Go.Act → World → Prop)
    (hQ : ∀ (b : Go.Act) (p : World), b.defers = a.defers → b.tmps.size = 127 → (∀ s, s ∉ ([102, 103, 104, 105, 106, 107, 108, 109, 110, 111, 112, 113, 114, 115, 116, 117, 118, 119, 120, 121, 122, 123, 124, 125, 126, 6] : List Nat) → slot b s = slot a s) → slot b 6 = .bool true → Fr [] w p → Q .normal b p) : Code.wp Tryd.prog lfnd_regR Q a w := by
  conv => arg 2; whnf
  refine wp_region_ghost (by kernel_rfl) (by kernel_rfl) [some 102, some 103, some 104, some 105, some 106, some 107, some 108, some 109, some 110, some 111, some 112, some 113, some 114, some 115, some 116, some 117, some 118, some 119, some 120, some 121, some 122, some 123, some 124, some 125, some 126, some 6] [21] [.rd (.nilIface) 1, .rd (.bool true) 1, .rd (.bool true) 1, .rd (.pointer (some ⟨fb, 0, none⟩)) 1, .rd (.int .i64 (rl : Int)) 1, .rd (.int .i64 (rl : Int)) 1, .rd (.bool true) 1, .rd (.bool true) 1, .rd (.bool true) 1, .rd (.pointer (some ⟨fb, 1, none⟩)) 1, .rd (.slice ua un uc) 1, .rd (.string S1) 1, .rd (wv) 1, .rd (.string S1) 1, .rd (.bool true) 1, .rd (.bool true) 1, .rd (.bool true) 1, .rd (.pointer (some ⟨fb, 2, none⟩)) 1, .rd (.slice ea en ec) 1, .rd (.string S2) 1, .rd (av) 1, .gh 0, .rd (.string S2) 1, .rd (.bool true) 1, .rd (.bool true) 1, .rd (.bool true) 1] (fun cj => undef) (fun s g p => Fr [] w p ∧ (0 < s → Bs (fun _ => False) p (g 0) ev)) (by kernel_rfl) (by rfl) (by rw [hsz]; rfl) (by kernel_rfl) (by kernel_rfl) (by decide) ?_ ⟨?_, ?_, ?_, ?_, ?_, ?_, ?_, ?_, ?_, ?_, ?_, ?_, ?_, ?_, ?_, ?_, ?_, ?_, ?_, ?_, ?_, ?_, ?_, ?_, ?_, ?_, trivial⟩ ?_
  · intro w1 hw1
    exact ⟨fun _ => undef, ⟨hw1, fun hk => absurd hk (by decide)⟩⟩
  · refine ⟨⟨102, rfl⟩, .inl rfl, fun b p s g hs hlow hS h => ?_⟩
    have e0 := (show b.eval (.tmp 8) = .nilIface from (h.old 8 (by decide)).trans h8)
    have ec : ∀ v, b.eval (.const v) = v := fun _ => rfl
    refine ⟨_, by simp only [List.getElem?_toArray, List.getElem?_cons_succ, List.getElem?_cons_zero]; rfl, .inl ⟨(wanted_none rfl), ?_⟩⟩
    obtain ⟨ρ, hρ⟩ : ∃ ρ, b.eval = ρ := ⟨_, rfl⟩
    rw [hρ] at e0 ec ⊢
    unfold execOp; simp [go_sem, e0, ec]
  · refine ⟨⟨103, rfl⟩, .inl rfl, fun b p s g hs hlow hS h => ?_⟩
    have e0 := (show b.eval (.tmp 102) = .nilIface from h.rd 0 _ _ 102 (by kernel_rfl) rfl rfl)
    have ec : ∀ v, b.eval (.const v) = v := fun _ => rfl
    refine ⟨_, by simp only [List.getElem?_toArray, List.getElem?_cons_succ, List.getElem?_cons_zero]; rfl, .inl ⟨(wanted_none rfl), ?_⟩⟩
    obtain ⟨ρ, hρ⟩ : ∃ ρ, b.eval = ρ := ⟨_, rfl⟩
    rw [hρ] at e0 ec ⊢
    unfold execOp; simp [go_sem, e0, ec]
  · refine ⟨⟨104, rfl⟩, .inl rfl, fun b p s g hs hlow hS h => ?_⟩
    have e0 := (show b.eval (.tmp 103) = .bool true from h.rd 1 _ _ 103 (by kernel_rfl) rfl rfl)
    have ec : ∀ v, b.eval (.const v) = v := fun _ => rfl
    refine ⟨_, by simp only [List.getElem?_toArray, List.getElem?_cons_succ, List.getElem?_cons_zero]; rfl, .inl ⟨(wanted_none rfl), ?_⟩⟩
    obtain ⟨ρ, hρ⟩ : ∃ ρ, b.eval = ρ := ⟨_, rfl⟩
    rw [hρ] at e0 ec ⊢
    unfold execOp; simp [go_sem, e0, ec]
  · refine ⟨⟨105, rfl⟩, .inl rfl, fun b p s g hs hlow hS h => ?_⟩
    have e0 := (show b.eval (.tmp 7) = .pointer (some ⟨fb, 0, none⟩) from (h.old 7 (by decide)).trans h7)
    have ec : ∀ v, b.eval (.const v) = v := fun _ => rfl
    refine ⟨_, by simp only [List.getElem?_toArray, List.getElem?_cons_succ, List.getElem?_cons_zero]; rfl, .inl ⟨(wanted_some 2 true 104 rfl (by simp only [List.getElem?_toArray, List.getElem?_cons_succ, List.getElem?_cons_zero]; rfl) (by rw [h.size, hsz]; decide) (h.rd 2 _ _ 104 (by kernel_rfl) rfl rfl)), ?_⟩⟩
    obtain ⟨ρ, hρ⟩ : ∃ ρ, b.eval = ρ := ⟨_, rfl⟩
    rw [hρ] at e0 ec ⊢
    unfold execOp; simp [go_sem, e0, ec]
  · refine ⟨⟨106, rfl⟩, .inl rfl, fun b p s g hs hlow hS h => ?_⟩
    have e0 := (show b.eval (.tmp 105) = .pointer (some ⟨fb, 0, none⟩) from h.rd 3 _ _ 105 (by kernel_rfl) rfl rfl)
    obtain ⟨hf, q0⟩ := hS
    have c0 := (show p.cell? ⟨fb, 0, none⟩ = some (.int .i64 (rl : Int)) from (cell_mono hf hc0))
    have ec : ∀ v, b.eval (.const v) = v := fun _ => rfl
    refine ⟨_, by simp only [List.getElem?_toArray, List.getElem?_cons_succ, List.getElem?_cons_zero]; rfl, .inl ⟨(wanted_some 2 true 104 rfl (by simp only [List.getElem?_toArray, List.getElem?_cons_succ, List.getElem?_cons_zero]; rfl) (by rw [h.size, hsz]; decide) (h.rd 2 _ _ 104 (by kernel_rfl) rfl rfl)), ?_⟩⟩
    obtain ⟨ρ, hρ⟩ : ∃ ρ, b.eval = ρ := ⟨_, rfl⟩
    rw [hρ] at e0 ec ⊢
    unfold execOp; simp [go_sem, e0, ec, c0]
  · refine ⟨⟨107, rfl⟩, .inl rfl, fun b p s g hs hlow hS h => ?_⟩
    have e0 := (show b.eval (.tmp 12) = .int .i64 (rl : Int) from (h.old 12 (by decide)).trans h12)
    have ec : ∀ v, b.eval (.const v) = v := fun _ => rfl
    refine ⟨_, by simp only [List.getElem?_toArray, List.getElem?_cons_succ, List.getElem?_cons_zero]; rfl, .inl ⟨(wanted_some 2 true 104 rfl (by simp only [List.getElem?_toArray, List.getElem?_cons_succ, List.getElem?_cons_zero]; rfl) (by rw [h.size, hsz]; decide) (h.rd 2 _ _ 104 (by kernel_rfl) rfl rfl)), ?_⟩⟩
    obtain ⟨ρ, hρ⟩ : ∃ ρ, b.eval = ρ := ⟨_, rfl⟩
    rw [hρ] at e0 ec ⊢
    unfold execOp; simp [go_sem, e0, ec]
  · refine ⟨⟨108, rfl⟩, .inl rfl, fun b p s g hs hlow hS h => ?_⟩
    have e0 := (show b.eval (.tmp 106) = .int .i64 (rl : Int) from h.rd 4 _ _ 106 (by kernel_rfl) rfl rfl)
    have e1 := (show b.eval (.tmp 107) = .int .i64 (rl : Int) from h.rd 5 _ _ 107 (by kernel_rfl) rfl rfl)
    have ec : ∀ v, b.eval (.const v) = v := fun _ => rfl
    refine ⟨_, by simp only [List.getElem?_toArray, List.getElem?_cons_succ, List.getElem?_cons_zero]; rfl, .inl ⟨(wanted_some 2 true 104 rfl (by simp only [List.getElem?_toArray, List.getElem?_cons_succ, List.getElem?_cons_zero]; rfl) (by rw [h.size, hsz]; decide) (h.rd 2 _ _ 104 (by kernel_rfl) rfl rfl)), ?_⟩⟩
    obtain ⟨ρ, hρ⟩ : ∃ ρ, b.eval = ρ := ⟨_, rfl⟩
    rw [hρ] at e0 e1 ec ⊢
    unfold execOp; simp [go_sem, e0, e1, ec]
  · refine ⟨⟨109, rfl⟩, .inl rfl, fun b p s g hs hlow hS h => ?_⟩
    have e0 := (show b.eval (.tmp 104) = .bool true from h.rd 2 _ _ 104 (by kernel_rfl) rfl rfl)
    have e1 := (show b.eval (.tmp 108) = .bool true from h.rd 6 _ _ 108 (by kernel_rfl) rfl rfl)
    have ec : ∀ v, b.eval (.const v) = v := fun _ => rfl
    refine ⟨_, by simp only [List.getElem?_toArray, List.getElem?_cons_succ, List.getElem?_cons_zero]; rfl, .inl ⟨(wanted_none rfl), ?_⟩⟩
    obtain ⟨ρ, hρ⟩ : ∃ ρ, b.eval = ρ := ⟨_, rfl⟩
    rw [hρ] at e0 e1 ec ⊢
    unfold execOp; simp [go_sem, e0, e1, ec]
  · refine ⟨⟨110, rfl⟩, .inl rfl, fun b p s g hs hlow hS h => ?_⟩
    have e0 := (show b.eval (.tmp 109) = .bool true from h.rd 7 _ _ 109 (by kernel_rfl) rfl rfl)
    have ec : ∀ v, b.eval (.const v) = v := fun _ => rfl
    refine ⟨_, by simp only [List.getElem?_toArray, List.getElem?_cons_succ, List.getElem?_cons_zero]; rfl, .inl ⟨(wanted_none rfl), ?_⟩⟩
    obtain ⟨ρ, hρ⟩ : ∃ ρ, b.eval = ρ := ⟨_, rfl⟩
    rw [hρ] at e0 ec ⊢
    unfold execOp; simp [go_sem, e0, ec]
  · refine ⟨⟨111, rfl⟩, .inl rfl, fun b p s g hs hlow hS h => ?_⟩
    have e0 := (show b.eval (.tmp 7) = .pointer (some ⟨fb, 0, none⟩) from (h.old 7 (by decide)).trans h7)
    have ec : ∀ v, b.eval (.const v) = v := fun _ => rfl
    refine ⟨_, by simp only [List.getElem?_toArray, List.getElem?_cons_succ, List.getElem?_cons_zero]; rfl, .inl ⟨(wanted_some 8 true 110 rfl (by simp only [List.getElem?_toArray, List.getElem?_cons_succ, List.getElem?_cons_zero]; rfl) (by rw [h.size, hsz]; decide) (h.rd 8 _ _ 110 (by kernel_rfl) rfl rfl)), ?_⟩⟩
    obtain ⟨ρ, hρ⟩ : ∃ ρ, b.eval = ρ := ⟨_, rfl⟩
    rw [hρ] at e0 ec ⊢
    unfold execOp; simp [go_sem, e0, ec]
  · refine ⟨⟨112, rfl⟩, .inl rfl, fun b p s g hs hlow hS h => ?_⟩
    have e0 := (show b.eval (.tmp 111) = .pointer (some ⟨fb, 1, none⟩) from h.rd 9 _ _ 111 (by kernel_rfl) rfl rfl)
    obtain ⟨hf, q0⟩ := hS
    have c0 := (show p.cell? ⟨fb, 1, none⟩ = some (.slice ua un uc) from (cell_mono hf hc1))
    have ec : ∀ v, b.eval (.const v) = v := fun _ => rfl
    refine ⟨_, by simp only [List.getElem?_toArray, List.getElem?_cons_succ, List.getElem?_cons_zero]; rfl, .inl ⟨(wanted_some 8 true 110 rfl (by simp only [List.getElem?_toArray, List.getElem?_cons_succ, List.getElem?_cons_zero]; rfl) (by rw [h.size, hsz]; decide) (h.rd 8 _ _ 110 (by kernel_rfl) rfl rfl)), ?_⟩⟩
    obtain ⟨ρ, hρ⟩ : ∃ ρ, b.eval = ρ := ⟨_, rfl⟩
    rw [hρ] at e0 ec ⊢
    unfold execOp; simp [go_sem, e0, ec, c0]
  · refine ⟨⟨113, rfl⟩, .inl rfl, fun b p s g hs hlow hS h => ?_⟩
    have e0 := (show b.eval (.tmp 112) = .slice ua un uc from h.rd 10 _ _ 112 (by kernel_rfl) rfl rfl)
    obtain ⟨hf, q0⟩ := hS
    exact ⟨_, by simp only [List.getElem?_toArray, List.getElem?_cons_succ, List.getElem?_cons_zero]; rfl, .inl ⟨(wanted_some 8 true 110 rfl (by simp only [List.getElem?_toArray, List.getElem?_cons_succ, List.getElem?_cons_zero]; rfl) (by rw [h.size, hsz]; decide) (h.rd 8 _ _ 110 (by kernel_rfl) rfl rfl)), run_strO (src := 22) (dst := 9) Tryd.underlying22 Tryd.underlying5 Tryd.underlying9 (.tmp 112) rfl e0 (hu.keep hf (by simp)) S1 hS1⟩⟩
  · refine ⟨⟨114, rfl⟩, .inl rfl, fun b p s g hs hlow hS h => ?_⟩
    have e0 := (show b.eval (.tmp 16) = wv from (h.old 16 (by decide)).trans h16)
    have ec : ∀ v, b.eval (.const v) = v := fun _ => rfl
    refine ⟨_, by simp only [List.getElem?_toArray, List.getElem?_cons_succ, List.getElem?_cons_zero]; rfl, .inl ⟨(wanted_some 8 true 110 rfl (by simp only [List.getElem?_toArray, List.getElem?_cons_succ, List.getElem?_cons_zero]; rfl) (by rw [h.size, hsz]; decide) (h.rd 8 _ _ 110 (by kernel_rfl) rfl rfl)), ?_⟩⟩
    obtain ⟨ρ, hρ⟩ : ∃ ρ, b.eval = ρ := ⟨_, rfl⟩
    rw [hρ] at e0 ec ⊢
    unfold execOp; simp [go_sem, e0, ec]
  · refine ⟨⟨115, rfl⟩, .inl rfl, fun b p s g hs hlow hS h => ?_⟩
    have e0 := (show b.eval (.tmp 114) = wv from h.rd 12 _ _ 114 (by kernel_rfl) rfl rfl)
    obtain ⟨hf, q0⟩ := hS
    exact ⟨_, by simp only [List.getElem?_toArray, List.getElem?_cons_succ, List.getElem?_cons_zero]; rfl, .inl ⟨(wanted_some 8 true 110 rfl (by simp only [List.getElem?_toArray, List.getElem?_cons_succ, List.getElem?_cons_zero]; rfl) (by rw [h.size, hsz]; decide) (h.rd 8 _ _ 110 (by kernel_rfl) rfl rfl)), run_strO (src := 22) (dst := 9) Tryd.underlying22 Tryd.underlying5 Tryd.underlying9 (.tmp 114) rfl e0 (hw2.keep hf (by simp)) S1 hS1⟩⟩
  · refine ⟨⟨116, rfl⟩, .inl rfl, fun b p s g hs hlow hS h => ?_⟩
    have e0 := (show b.eval (.tmp 113) = .string S1 from h.rd 11 _ _ 113 (by kernel_rfl) rfl rfl)
    have e1 := (show b.eval (.tmp 115) = .string S1 from h.rd 13 _ _ 115 (by kernel_rfl) rfl rfl)
    have ec : ∀ v, b.eval (.const v) = v := fun _ => rfl
    refine ⟨_, by simp only [List.getElem?_toArray, List.getElem?_cons_succ, List.getElem?_cons_zero]; rfl, .inl ⟨(wanted_some 8 true 110 rfl (by simp only [List.getElem?_toArray, List.getElem?_cons_succ, List.getElem?_cons_zero]; rfl) (by rw [h.size, hsz]; decide) (h.rd 8 _ _ 110 (by kernel_rfl) rfl rfl)), ?_⟩⟩
    obtain ⟨ρ, hρ⟩ : ∃ ρ, b.eval = ρ := ⟨_, rfl⟩
    rw [hρ] at e0 e1 ec ⊢
    unfold execOp; simp [go_sem, e0, e1, ec]
  · refine ⟨⟨117, rfl⟩, .inl rfl, fun b p s g hs hlow hS h => ?_⟩
    have e0 := (show b.eval (.tmp 110) = .bool true from h.rd 8 _ _ 110 (by kernel_rfl) rfl rfl)
    have e1 := (show b.eval (.tmp 116) = .bool true from h.rd 14 _ _ 116 (by kernel_rfl) rfl rfl)
    have ec : ∀ v, b.eval (.const v) = v := fun _ => rfl
    refine ⟨_, by simp only [List.getElem?_toArray, List.getElem?_cons_succ, List.getElem?_cons_zero]; rfl, .inl ⟨(wanted_none rfl), ?_⟩⟩
    obtain ⟨ρ, hρ⟩ : ∃ ρ, b.eval = ρ := ⟨_, rfl⟩
    rw [hρ] at e0 e1 ec ⊢
    unfold execOp; simp [go_sem, e0, e1, ec]
  · refine ⟨⟨118, rfl⟩, .inl rfl, fun b p s g hs hlow hS h => ?_⟩
    have e0 := (show b.eval (.tmp 117) = .bool true from h.rd 15 _ _ 117 (by kernel_rfl) rfl rfl)
    have ec : ∀ v, b.eval (.const v) = v := fun _ => rfl
    refine ⟨_, by simp only [List.getElem?_toArray, List.getElem?_cons_succ, List.getElem?_cons_zero]; rfl, .inl ⟨(wanted_none rfl), ?_⟩⟩
    obtain ⟨ρ, hρ⟩ : ∃ ρ, b.eval = ρ := ⟨_, rfl⟩
    rw [hρ] at e0 ec ⊢
    unfold execOp; simp [go_sem, e0, ec]
  · refine ⟨⟨119, rfl⟩, .inl rfl, fun b p s g hs hlow hS h => ?_⟩
    have e0 := (show b.eval (.tmp 7) = .pointer (some ⟨fb, 0, none⟩) from (h.old 7 (by decide)).trans h7)
    have ec : ∀ v, b.eval (.const v) = v := fun _ => rfl
    refine ⟨_, by simp only [List.getElem?_toArray, List.getElem?_cons_succ, List.getElem?_cons_zero]; rfl, .inl ⟨(wanted_some 16 true 118 rfl (by simp only [List.getElem?_toArray, List.getElem?_cons_succ, List.getElem?_cons_zero]; rfl) (by rw [h.size, hsz]; decide) (h.rd 16 _ _ 118 (by kernel_rfl) rfl rfl)), ?_⟩⟩
    obtain ⟨ρ, hρ⟩ : ∃ ρ, b.eval = ρ := ⟨_, rfl⟩
    rw [hρ] at e0 ec ⊢
    unfold execOp; simp [go_sem, e0, ec]
  · refine ⟨⟨120, rfl⟩, .inl rfl, fun b p s g hs hlow hS h => ?_⟩
    have e0 := (show b.eval (.tmp 119) = .pointer (some ⟨fb, 2, none⟩) from h.rd 17 _ _ 119 (by kernel_rfl) rfl rfl)
    obtain ⟨hf, q0⟩ := hS
    have c0 := (show p.cell? ⟨fb, 2, none⟩ = some (.slice ea en ec) from (cell_mono hf hc2))
    have ec : ∀ v, b.eval (.const v) = v := fun _ => rfl
    refine ⟨_, by simp only [List.getElem?_toArray, List.getElem?_cons_succ, List.getElem?_cons_zero]; rfl, .inl ⟨(wanted_some 16 true 118 rfl (by simp only [List.getElem?_toArray, List.getElem?_cons_succ, List.getElem?_cons_zero]; rfl) (by rw [h.size, hsz]; decide) (h.rd 16 _ _ 118 (by kernel_rfl) rfl rfl)), ?_⟩⟩
    obtain ⟨ρ, hρ⟩ : ∃ ρ, b.eval = ρ := ⟨_, rfl⟩
    rw [hρ] at e0 ec ⊢
    unfold execOp; simp [go_sem, e0, ec, c0]
  · refine ⟨⟨121, rfl⟩, .inl rfl, fun b p s g hs hlow hS h => ?_⟩
    have e0 := (show b.eval (.tmp 120) = .slice ea en ec from h.rd 18 _ _ 120 (by kernel_rfl) rfl rfl)
    obtain ⟨hf, q0⟩ := hS
    exact ⟨_, by simp only [List.getElem?_toArray, List.getElem?_cons_succ, List.getElem?_cons_zero]; rfl, .inl ⟨(wanted_some 16 true 118 rfl (by simp only [List.getElem?_toArray, List.getElem?_cons_succ, List.getElem?_cons_zero]; rfl) (by rw [h.size, hsz]; decide) (h.rd 16 _ _ 118 (by kernel_rfl) rfl rfl)), run_strO (src := 22) (dst := 9) Tryd.underlying22 Tryd.underlying5 Tryd.underlying9 (.tmp 120) rfl e0 (he.keep hf (by simp)) S2 hS2⟩⟩
  · refine ⟨⟨122, rfl⟩, .inl rfl, fun b p s g hs hlow hS h => ?_⟩
    have e0 := (show b.eval (.tmp 17) = av from (h.old 17 (by decide)).trans h17)
    have ec : ∀ v, b.eval (.const v) = v := fun _ => rfl
    refine ⟨_, by simp only [List.getElem?_toArray, List.getElem?_cons_succ, List.getElem?_cons_zero]; rfl, .inl ⟨(wanted_some 16 true 118 rfl (by simp only [List.getElem?_toArray, List.getElem?_cons_succ, List.getElem?_cons_zero]; rfl) (by rw [h.size, hsz]; decide) (h.rd 16 _ _ 118 (by kernel_rfl) rfl rfl)), ?_⟩⟩
    obtain ⟨ρ, hρ⟩ : ∃ ρ, b.eval = ρ := ⟨_, rfl⟩
    rw [hρ] at e0 ec ⊢
    unfold execOp; simp [go_sem, e0, ec]
  · refine ⟨rfl, .inl rfl, fun b p g hS h => ?_⟩
    have e0 := (show b.eval (.tmp 122) = av from h.rd 20 _ _ 122 (by kernel_rfl) rfl rfl)
    obtain ⟨hf, q0⟩ := hS
    refine opV_func _ (by simp only [List.getElem?_toArray, List.getElem?_cons_succ, List.getElem?_cons_zero]; rfl) (wanted_some 16 true 118 rfl (by simp only [List.getElem?_toArray, List.getElem?_cons_succ, List.getElem?_cons_zero]; rfl) (by rw [h.size, hsz]; decide) (h.rd 16 _ _ 118 (by kernel_rfl) rfl rfl)) 27 _ _ rfl #[av] (by simp only [List.map_toArray, List.map_cons, List.map_nil, e0]) (by simp [go_sem]) ((htr p hf).mono ?_)
    rintro e p' ⟨u, rfl, ho, hf'⟩
    exact ⟨_, rfl, ⟨hf.trans hf', fun _ => ho.bs (by simp)⟩⟩
  · refine ⟨⟨124, rfl⟩, .inl rfl, fun b p s g hs hlow hS h => ?_⟩
    have e0 := (show b.eval (.tmp 123) = g 0 from h.gh 21 _ 123 (by kernel_rfl) rfl rfl)
    obtain ⟨hf, q0⟩ := hS
    exact ⟨_, by simp only [List.getElem?_toArray, List.getElem?_cons_succ, List.getElem?_cons_zero]; rfl, .inl ⟨(wanted_some 16 true 118 rfl (by simp only [List.getElem?_toArray, List.getElem?_cons_succ, List.getElem?_cons_zero]; rfl) (by rw [h.size, hsz]; decide) (h.rd 16 _ _ 118 (by kernel_rfl) rfl rfl)), run_strO (src := 22) (dst := 9) Tryd.underlying22 Tryd.underlying5 Tryd.underlying9 (.tmp 123) rfl e0 (q0 (hlow 0 21 rfl (by kernel_rfl))) S2 hS2⟩⟩
  · refine ⟨⟨125, rfl⟩, .inl rfl, fun b p s g hs hlow hS h => ?_⟩
    have e0 := (show b.eval (.tmp 121) = .string S2 from h.rd 19 _ _ 121 (by kernel_rfl) rfl rfl)
    have e1 := (show b.eval (.tmp 124) = .string S2 from h.rd 22 _ _ 124 (by kernel_rfl) rfl rfl)
    have ec : ∀ v, b.eval (.const v) = v := fun _ => rfl
    refine ⟨_, by simp only [List.getElem?_toArray, List.getElem?_cons_succ, List.getElem?_cons_zero]; rfl, .inl ⟨(wanted_some 16 true 118 rfl (by simp only [List.getElem?_toArray, List.getElem?_cons_succ, List.getElem?_cons_zero]; rfl) (by rw [h.size, hsz]; decide) (h.rd 16 _ _ 118 (by kernel_rfl) rfl rfl)), ?_⟩⟩
    obtain ⟨ρ, hρ⟩ : ∃ ρ, b.eval = ρ := ⟨_, rfl⟩
    rw [hρ] at e0 e1 ec ⊢
    unfold execOp; simp [go_sem, e0, e1, ec]
  · refine ⟨⟨126, rfl⟩, .inl rfl, fun b p s g hs hlow hS h => ?_⟩
    have e0 := (show b.eval (.tmp 118) = .bool true from h.rd 16 _ _ 118 (by kernel_rfl) rfl rfl)
    have e1 := (show b.eval (.tmp 125) = .bool true from h.rd 23 _ _ 125 (by kernel_rfl) rfl rfl)
    have ec : ∀ v, b.eval (.const v) = v := fun _ => rfl
    refine ⟨_, by simp only [List.getElem?_toArray, List.getElem?_cons_succ, List.getElem?_cons_zero]; rfl, .inl ⟨(wanted_none rfl), ?_⟩⟩
    obtain ⟨ρ, hρ⟩ : ∃ ρ, b.eval = ρ := ⟨_, rfl⟩
    rw [hρ] at e0 e1 ec ⊢
    unfold execOp; simp [go_sem, e0, e1, ec]
  · refine ⟨⟨6, rfl⟩, .inl rfl, fun b p s g hs hlow hS h => ?_⟩
    have e0 := (show b.eval (.tmp 126) = .bool true from h.rd 24 _ _ 126 (by kernel_rfl) rfl rfl)
    have ec : ∀ v, b.eval (.const v) = v := fun _ => rfl
    refine ⟨_, by simp only [List.getElem?_toArray, List.getElem?_cons_succ, List.getElem?_cons_zero]; rfl, .inl ⟨(wanted_none rfl), ?_⟩⟩
    obtain ⟨ρ, hρ⟩ : ∃ ρ, b.eval = ρ := ⟨_, rfl⟩
    rw [hρ] at e0 ec ⊢
    unfold execOp; simp [go_sem, e0, ec]
  · intro b p h1 h2 h3 h4 h5
    obtain ⟨g, h4, h6⟩ := h4
    have r6 : slot b 6 = .bool true := h5 25 (.bool true) _ 6 rfl rfl
    exact hQ b p h1 (h2.trans hsz) (fun s hs => h3 s (fun hm => hs (by simpa using hm))) r6 h4.1
end Go.Proofs.YtfblhdomjnffcaaDoor
