/-
  The law RepairBack: the drawn regions 'w[p] = w[p] ^ c.By'. (printed by genxor.py)
-/
import Derived.Test.YtfblhdomjnffcaaDoorPm
import Derived.Test.YtfblhdomjnffcaaDoorOwb
namespace Go.Proofs.YtfblhdomjnffcaaDoor
open Go.RowKit Go.Bl
set_option linter.unusedVariables false

noncomputable def rbk_xor1R : Code := ((Tryd.f9.body.bind (findRegionC 21)).getD .skip)
set_option maxRecDepth 1000000 in
set_option maxHeartbeats 8000000 in
theorem rbk_xor1 (w : World) (a : Go.Act) (hsz : a.tmps.size = 173) (g n cp i cb base : Nat) (y : UInt8) (xs : List UInt8) (hi : i < n) (hn : n ≤ 1000000) (hl : xs.length = n) (hcb : cb ≠ g) (h10 : slot a 10 = .slice (some ⟨g, 0, none⟩) n cp) (h15 : slot a 15 = .int .i64 (i : Int)) (h14 : slot a 14 = .pointer (some ⟨cb, 0, none⟩)) (hO : OwnB 5 base w (.slice (some ⟨g, 0, none⟩) n cp) xs) (hc : w.cell? ⟨cb, 1, none⟩ = some (.int .u8 (y.toNat : Int))) (Q : Exit → Go.Act → World → Prop)
    (hQ : ∀ (b : Go.Act) (p : World), b.defers = a.defers → b.tmps.size = a.tmps.size → (∀ s, s ∉ ([88, 89, 90, 91, 92, 93, 94, 95, 96, 97] : List Nat) → slot b s = slot a s) → Fr [g] w p → OwnB 5 base p (.slice (some ⟨g, 0, none⟩) n cp) (xs.set i (xs.getD i 0 ^^^ y)) → Q .normal b p) : Code.wp Tryd.prog rbk_xor1R Q a w := by
  conv => arg 2; whnf
  refine wp_region_chain (by kernel_rfl) (by kernel_rfl) [some 88, some 89, some 90, some 91, some 92, some 93, some 94, some 95, some 96, some 97, none] [10] [.rd (.slice (some ⟨g, 0, none⟩) n cp) 1, .rd (.int .i64 (i : Int)) 1, .rd (.slice (some ⟨g, 0, none⟩) n cp) 1, .rd (.int .i64 (i : Int)) 1, .rd (.pointer (some ⟨g, i, none⟩)) 1, .rd (.int .u8 ((xs.getD i 0).toNat : Int)) 0, .rd (.pointer (some ⟨cb, 1, none⟩)) 1, .rd (.int .u8 (y.toNat : Int)) 1, .rd (.int .u8 ((xs.getD i 0 ^^^ y).toNat : Int)) 1, .rd (.pointer (some ⟨g, i, none⟩)) 1, .st 0] (fun j => undef) (fun s p => Fr [g] w p ∧ OwnB 5 base p (.slice (some ⟨g, 0, none⟩) n cp) (if s ≤ 0 then xs else (xs.set i (xs.getD i 0 ^^^ y)))) (by kernel_rfl) (by rfl) (by rw [hsz]; rfl) (by kernel_rfl) (by kernel_rfl) (by decide) ?_ ⟨?_, ?_, ?_, ?_, ?_, ?_, ?_, ?_, ?_, ?_, ?_, trivial⟩ ?_
  · intro w1 hw1
    exact ⟨hw1.weak, by rw [if_pos (by decide)]; exact hO.keep hw1 (by simp)⟩
  · refine ⟨⟨88, rfl⟩, .inl rfl, fun b p s hs hS h => ?_⟩
    have e0 : b.eval (.tmp 10) = .slice (some ⟨g, 0, none⟩) n cp := (h.old 10 (by decide)).trans h10
    have ec : ∀ v, b.eval (.const v) = v := fun _ => rfl
    obtain ⟨ρ, hρ⟩ : ∃ ρ, b.eval = ρ := ⟨_, rfl⟩
    rw [hρ] at e0 ec ⊢
    exact ⟨_, by simp only [List.getElem?_toArray, List.getElem?_cons_succ, List.getElem?_cons_zero]; rfl, rfl, by unfold execOp; simp [go_sem, e0, ec]⟩
  · refine ⟨⟨89, rfl⟩, .inl rfl, fun b p s hs hS h => ?_⟩
    have e0 : b.eval (.tmp 15) = .int .i64 (i : Int) := (h.old 15 (by decide)).trans h15
    have ec : ∀ v, b.eval (.const v) = v := fun _ => rfl
    obtain ⟨ρ, hρ⟩ : ∃ ρ, b.eval = ρ := ⟨_, rfl⟩
    rw [hρ] at e0 ec ⊢
    exact ⟨_, by simp only [List.getElem?_toArray, List.getElem?_cons_succ, List.getElem?_cons_zero]; rfl, rfl, by unfold execOp; simp [go_sem, e0, ec]⟩
  · refine ⟨⟨90, rfl⟩, .inl rfl, fun b p s hs hS h => ?_⟩
    have e0 : b.eval (.tmp 10) = .slice (some ⟨g, 0, none⟩) n cp := (h.old 10 (by decide)).trans h10
    have ec : ∀ v, b.eval (.const v) = v := fun _ => rfl
    obtain ⟨ρ, hρ⟩ : ∃ ρ, b.eval = ρ := ⟨_, rfl⟩
    rw [hρ] at e0 ec ⊢
    exact ⟨_, by simp only [List.getElem?_toArray, List.getElem?_cons_succ, List.getElem?_cons_zero]; rfl, rfl, by unfold execOp; simp [go_sem, e0, ec]⟩
  · refine ⟨⟨91, rfl⟩, .inl rfl, fun b p s hs hS h => ?_⟩
    have e0 : b.eval (.tmp 15) = .int .i64 (i : Int) := (h.old 15 (by decide)).trans h15
    have ec : ∀ v, b.eval (.const v) = v := fun _ => rfl
    obtain ⟨ρ, hρ⟩ : ∃ ρ, b.eval = ρ := ⟨_, rfl⟩
    rw [hρ] at e0 ec ⊢
    exact ⟨_, by simp only [List.getElem?_toArray, List.getElem?_cons_succ, List.getElem?_cons_zero]; rfl, rfl, by unfold execOp; simp [go_sem, e0, ec]⟩
  · refine ⟨⟨92, rfl⟩, .inl rfl, fun b p s hs hS h => ?_⟩
    have e0 := (show b.eval (.tmp 90) = .slice (some ⟨g, 0, none⟩) n cp from h.rd 2 _ _ 90 (by kernel_rfl) rfl rfl)
    have e1 := (show b.eval (.tmp 91) = .int .i64 (i : Int) from h.rd 3 _ _ 91 (by kernel_rfl) rfl rfl)
    have ec : ∀ v, b.eval (.const v) = v := fun _ => rfl
    obtain ⟨ρ, hρ⟩ : ∃ ρ, b.eval = ρ := ⟨_, rfl⟩
    rw [hρ] at e0 e1 ec ⊢
    exact ⟨_, by simp only [List.getElem?_toArray, List.getElem?_cons_succ, List.getElem?_cons_zero]; rfl, rfl, by unfold execOp; simp [go_sem, e0, e1, ec, show (i : Int) < n by omega, show i < n by omega]⟩
  · refine ⟨⟨93, rfl⟩, .inr ⟨10, rfl, by kernel_rfl⟩, fun b p s hs hS h => ?_⟩
    have e0 := (show b.eval (.tmp 92) = .pointer (some ⟨g, i, none⟩) from h.rd 4 _ _ 92 (by kernel_rfl) rfl rfl)
    have c0 := (show p.cell? ⟨g, i, none⟩ = some (.int .u8 ((xs.getD i 0).toNat : Int)) from by have hA := hS.2; rw [if_pos hs] at hA; exact own_cellB hA (by omega))
    have ec : ∀ v, b.eval (.const v) = v := fun _ => rfl
    obtain ⟨ρ, hρ⟩ : ∃ ρ, b.eval = ρ := ⟨_, rfl⟩
    rw [hρ] at e0 ec ⊢
    exact ⟨_, by simp only [List.getElem?_toArray, List.getElem?_cons_succ, List.getElem?_cons_zero]; rfl, rfl, by unfold execOp; simp [go_sem, e0, ec, c0]⟩
  · refine ⟨⟨94, rfl⟩, .inl rfl, fun b p s hs hS h => ?_⟩
    have e0 : b.eval (.tmp 14) = .pointer (some ⟨cb, 0, none⟩) := (h.old 14 (by decide)).trans h14
    have ec : ∀ v, b.eval (.const v) = v := fun _ => rfl
    obtain ⟨ρ, hρ⟩ : ∃ ρ, b.eval = ρ := ⟨_, rfl⟩
    rw [hρ] at e0 ec ⊢
    exact ⟨_, by simp only [List.getElem?_toArray, List.getElem?_cons_succ, List.getElem?_cons_zero]; rfl, rfl, by unfold execOp; simp [go_sem, e0, ec]⟩
  · refine ⟨⟨95, rfl⟩, .inl rfl, fun b p s hs hS h => ?_⟩
    have e0 := (show b.eval (.tmp 94) = .pointer (some ⟨cb, 1, none⟩) from h.rd 6 _ _ 94 (by kernel_rfl) rfl rfl)
    have c0 := (show p.cell? ⟨cb, 1, none⟩ = some (.int .u8 (y.toNat : Int)) from cell_keep hS.1 (by simpa using hcb) hc)
    have ec : ∀ v, b.eval (.const v) = v := fun _ => rfl
    obtain ⟨ρ, hρ⟩ : ∃ ρ, b.eval = ρ := ⟨_, rfl⟩
    rw [hρ] at e0 ec ⊢
    exact ⟨_, by simp only [List.getElem?_toArray, List.getElem?_cons_succ, List.getElem?_cons_zero]; rfl, rfl, by unfold execOp; simp [go_sem, e0, ec, c0]⟩
  · refine ⟨⟨96, rfl⟩, .inl rfl, fun b p s hs hS h => ?_⟩
    have e0 := (show b.eval (.tmp 93) = .int .u8 ((xs.getD i 0).toNat : Int) from h.rd 5 _ _ 93 (by kernel_rfl) rfl rfl)
    have e1 := (show b.eval (.tmp 95) = .int .u8 (y.toNat : Int) from h.rd 7 _ _ 95 (by kernel_rfl) rfl rfl)
    have ec : ∀ v, b.eval (.const v) = v := fun _ => rfl
    obtain ⟨ρ, hρ⟩ : ∃ ρ, b.eval = ρ := ⟨_, rfl⟩
    rw [hρ] at e0 e1 ec ⊢
    exact ⟨_, by simp only [List.getElem?_toArray, List.getElem?_cons_succ, List.getElem?_cons_zero]; rfl, rfl, by unfold execOp; simp [go_sem, e0, e1, ec, u8_xor_u]⟩
  · refine ⟨⟨97, rfl⟩, .inl rfl, fun b p s hs hS h => ?_⟩
    have e0 := (show b.eval (.tmp 88) = .slice (some ⟨g, 0, none⟩) n cp from h.rd 0 _ _ 88 (by kernel_rfl) rfl rfl)
    have e1 := (show b.eval (.tmp 89) = .int .i64 (i : Int) from h.rd 1 _ _ 89 (by kernel_rfl) rfl rfl)
    have ec : ∀ v, b.eval (.const v) = v := fun _ => rfl
    obtain ⟨ρ, hρ⟩ : ∃ ρ, b.eval = ρ := ⟨_, rfl⟩
    rw [hρ] at e0 e1 ec ⊢
    exact ⟨_, by simp only [List.getElem?_toArray, List.getElem?_cons_succ, List.getElem?_cons_zero]; rfl, rfl, by unfold execOp; simp [go_sem, e0, e1, ec, show (i : Int) < n by omega, show i < n by omega]⟩
  · refine ⟨rfl, .inl rfl, fun b p hS h => ?_⟩
    have e0 := (show b.eval (.tmp 97) = .pointer (some ⟨g, i, none⟩) from h.rd 9 _ _ 97 (by kernel_rfl) rfl rfl)
    have e1 := (show b.eval (.tmp 96) = .int .u8 ((xs.getD i 0 ^^^ y).toNat : Int) from h.rd 8 _ _ 96 (by kernel_rfl) rfl rfl)
    obtain ⟨hf, hO⟩ := hS
    rw [if_pos (by decide)] at hO
    obtain ⟨cur, hA, hl, -, hset⟩ := own_blk hO
    refine opV_mono (K := fun _ p' => Fr [g] w p' ∧ OwnB 5 base p' (.slice (some ⟨g, 0, none⟩) n cp) (xs.set i (xs.getD i 0 ^^^ y))) (fun v p' hv => ⟨by show Fr [g] w p' ∧ OwnB 5 base p' (.slice (some ⟨g, 0, none⟩) n cp) (if 0 + 1 ≤ 0 then xs else (xs.set i (xs.getD i 0 ^^^ y))); rw [if_neg (by decide)]; exact hv, .inl rfl⟩) ?_
    refine opV_of_wpl (K := fun _ p' => Fr [g] w p' ∧ OwnB 5 base p' (.slice (some ⟨g, 0, none⟩) n cp) (xs.set i (xs.getD i 0 ^^^ y))) _ (by simp only [List.getElem?_toArray, List.getElem?_cons_succ, List.getElem?_cons_zero]; rfl) ?_
    refine wpl_store_one (.tmp 97) (.tmp 96) rfl rfl (.int .u8 ((xs.getD i 0 ^^^ y).toNat : Int)) e0 e1 hA (by omega) (by kernel_rfl) rfl ?_
    intro p1 f1 a1 _
    exact ⟨rfl, rfl, hf.trans f1, hset p1 i _ a1⟩
  · intro b p h1 h2 h3 h4 h5
    exact hQ b p h1 h2 (fun s hs => h3 s (fun hm => hs (by simpa using hm))) h4.1 (by have := h4.2; rwa [if_neg (by decide)] at this)

noncomputable def rbk_xor2R : Code := ((Tryd.f9.body.bind (findRegionC 31)).getD .skip)
set_option maxRecDepth 1000000 in
set_option maxHeartbeats 8000000 in
theorem rbk_xor2 (w : World) (a : Go.Act) (hsz : a.tmps.size = 173) (g n cp i cb base : Nat) (y : UInt8) (xs : List UInt8) (hi : i < n) (hn : n ≤ 1000000) (hl : xs.length = n) (hcb : cb ≠ g) (h10 : slot a 10 = .slice (some ⟨g, 0, none⟩) n cp) (h19 : slot a 19 = .int .i64 (i : Int)) (h18 : slot a 18 = .pointer (some ⟨cb, 0, none⟩)) (hO : OwnB 5 base w (.slice (some ⟨g, 0, none⟩) n cp) xs) (hc : w.cell? ⟨cb, 1, none⟩ = some (.int .u8 (y.toNat : Int))) (Q : Exit → Go.Act → World → Prop)
    (hQ : ∀ (b : Go.Act) (p : World), b.defers = a.defers → b.tmps.size = a.tmps.size → (∀ s, s ∉ ([127, 128, 129, 130, 131, 132, 133, 134, 135, 136] : List Nat) → slot b s = slot a s) → Fr [g] w p → OwnB 5 base p (.slice (some ⟨g, 0, none⟩) n cp) (xs.set i (xs.getD i 0 ^^^ y)) → Q .normal b p) : Code.wp Tryd.prog rbk_xor2R Q a w := by
  conv => arg 2; whnf
  refine wp_region_chain (by kernel_rfl) (by kernel_rfl) [some 127, some 128, some 129, some 130, some 131, some 132, some 133, some 134, some 135, some 136, none] [10] [.rd (.slice (some ⟨g, 0, none⟩) n cp) 1, .rd (.int .i64 (i : Int)) 1, .rd (.slice (some ⟨g, 0, none⟩) n cp) 1, .rd (.int .i64 (i : Int)) 1, .rd (.pointer (some ⟨g, i, none⟩)) 1, .rd (.int .u8 ((xs.getD i 0).toNat : Int)) 0, .rd (.pointer (some ⟨cb, 1, none⟩)) 1, .rd (.int .u8 (y.toNat : Int)) 1, .rd (.int .u8 ((xs.getD i 0 ^^^ y).toNat : Int)) 1, .rd (.pointer (some ⟨g, i, none⟩)) 1, .st 0] (fun j => undef) (fun s p => Fr [g] w p ∧ OwnB 5 base p (.slice (some ⟨g, 0, none⟩) n cp) (if s ≤ 0 then xs else (xs.set i (xs.getD i 0 ^^^ y)))) (by kernel_rfl) (by rfl) (by rw [hsz]; rfl) (by kernel_rfl) (by kernel_rfl) (by decide) ?_ ⟨?_, ?_, ?_, ?_, ?_, ?_, ?_, ?_, ?_, ?_, ?_, trivial⟩ ?_
  · intro w1 hw1
    exact ⟨hw1.weak, by rw [if_pos (by decide)]; exact hO.keep hw1 (by simp)⟩
  · refine ⟨⟨127, rfl⟩, .inl rfl, fun b p s hs hS h => ?_⟩
    have e0 : b.eval (.tmp 10) = .slice (some ⟨g, 0, none⟩) n cp := (h.old 10 (by decide)).trans h10
    have ec : ∀ v, b.eval (.const v) = v := fun _ => rfl
    obtain ⟨ρ, hρ⟩ : ∃ ρ, b.eval = ρ := ⟨_, rfl⟩
    rw [hρ] at e0 ec ⊢
    exact ⟨_, by simp only [List.getElem?_toArray, List.getElem?_cons_succ, List.getElem?_cons_zero]; rfl, rfl, by unfold execOp; simp [go_sem, e0, ec]⟩
  · refine ⟨⟨128, rfl⟩, .inl rfl, fun b p s hs hS h => ?_⟩
    have e0 : b.eval (.tmp 19) = .int .i64 (i : Int) := (h.old 19 (by decide)).trans h19
    have ec : ∀ v, b.eval (.const v) = v := fun _ => rfl
    obtain ⟨ρ, hρ⟩ : ∃ ρ, b.eval = ρ := ⟨_, rfl⟩
    rw [hρ] at e0 ec ⊢
    exact ⟨_, by simp only [List.getElem?_toArray, List.getElem?_cons_succ, List.getElem?_cons_zero]; rfl, rfl, by unfold execOp; simp [go_sem, e0, ec]⟩
  · refine ⟨⟨129, rfl⟩, .inl rfl, fun b p s hs hS h => ?_⟩
    have e0 : b.eval (.tmp 10) = .slice (some ⟨g, 0, none⟩) n cp := (h.old 10 (by decide)).trans h10
    have ec : ∀ v, b.eval (.const v) = v := fun _ => rfl
    obtain ⟨ρ, hρ⟩ : ∃ ρ, b.eval = ρ := ⟨_, rfl⟩
    rw [hρ] at e0 ec ⊢
    exact ⟨_, by simp only [List.getElem?_toArray, List.getElem?_cons_succ, List.getElem?_cons_zero]; rfl, rfl, by unfold execOp; simp [go_sem, e0, ec]⟩
  · refine ⟨⟨130, rfl⟩, .inl rfl, fun b p s hs hS h => ?_⟩
    have e0 : b.eval (.tmp 19) = .int .i64 (i : Int) := (h.old 19 (by decide)).trans h19
    have ec : ∀ v, b.eval (.const v) = v := fun _ => rfl
    obtain ⟨ρ, hρ⟩ : ∃ ρ, b.eval = ρ := ⟨_, rfl⟩
    rw [hρ] at e0 ec ⊢
    exact ⟨_, by simp only [List.getElem?_toArray, List.getElem?_cons_succ, List.getElem?_cons_zero]; rfl, rfl, by unfold execOp; simp [go_sem, e0, ec]⟩
  · refine ⟨⟨131, rfl⟩, .inl rfl, fun b p s hs hS h => ?_⟩
    have e0 := (show b.eval (.tmp 129) = .slice (some ⟨g, 0, none⟩) n cp from h.rd 2 _ _ 129 (by kernel_rfl) rfl rfl)
    have e1 := (show b.eval (.tmp 130) = .int .i64 (i : Int) from h.rd 3 _ _ 130 (by kernel_rfl) rfl rfl)
    have ec : ∀ v, b.eval (.const v) = v := fun _ => rfl
    obtain ⟨ρ, hρ⟩ : ∃ ρ, b.eval = ρ := ⟨_, rfl⟩
    rw [hρ] at e0 e1 ec ⊢
    exact ⟨_, by simp only [List.getElem?_toArray, List.getElem?_cons_succ, List.getElem?_cons_zero]; rfl, rfl, by unfold execOp; simp [go_sem, e0, e1, ec, show (i : Int) < n by omega, show i < n by omega]⟩
  · refine ⟨⟨132, rfl⟩, .inr ⟨10, rfl, by kernel_rfl⟩, fun b p s hs hS h => ?_⟩
    have e0 := (show b.eval (.tmp 131) = .pointer (some ⟨g, i, none⟩) from h.rd 4 _ _ 131 (by kernel_rfl) rfl rfl)
    have c0 := (show p.cell? ⟨g, i, none⟩ = some (.int .u8 ((xs.getD i 0).toNat : Int)) from by have hA := hS.2; rw [if_pos hs] at hA; exact own_cellB hA (by omega))
    have ec : ∀ v, b.eval (.const v) = v := fun _ => rfl
    obtain ⟨ρ, hρ⟩ : ∃ ρ, b.eval = ρ := ⟨_, rfl⟩
    rw [hρ] at e0 ec ⊢
    exact ⟨_, by simp only [List.getElem?_toArray, List.getElem?_cons_succ, List.getElem?_cons_zero]; rfl, rfl, by unfold execOp; simp [go_sem, e0, ec, c0]⟩
  · refine ⟨⟨133, rfl⟩, .inl rfl, fun b p s hs hS h => ?_⟩
    have e0 : b.eval (.tmp 18) = .pointer (some ⟨cb, 0, none⟩) := (h.old 18 (by decide)).trans h18
    have ec : ∀ v, b.eval (.const v) = v := fun _ => rfl
    obtain ⟨ρ, hρ⟩ : ∃ ρ, b.eval = ρ := ⟨_, rfl⟩
    rw [hρ] at e0 ec ⊢
    exact ⟨_, by simp only [List.getElem?_toArray, List.getElem?_cons_succ, List.getElem?_cons_zero]; rfl, rfl, by unfold execOp; simp [go_sem, e0, ec]⟩
  · refine ⟨⟨134, rfl⟩, .inl rfl, fun b p s hs hS h => ?_⟩
    have e0 := (show b.eval (.tmp 133) = .pointer (some ⟨cb, 1, none⟩) from h.rd 6 _ _ 133 (by kernel_rfl) rfl rfl)
    have c0 := (show p.cell? ⟨cb, 1, none⟩ = some (.int .u8 (y.toNat : Int)) from cell_keep hS.1 (by simpa using hcb) hc)
    have ec : ∀ v, b.eval (.const v) = v := fun _ => rfl
    obtain ⟨ρ, hρ⟩ : ∃ ρ, b.eval = ρ := ⟨_, rfl⟩
    rw [hρ] at e0 ec ⊢
    exact ⟨_, by simp only [List.getElem?_toArray, List.getElem?_cons_succ, List.getElem?_cons_zero]; rfl, rfl, by unfold execOp; simp [go_sem, e0, ec, c0]⟩
  · refine ⟨⟨135, rfl⟩, .inl rfl, fun b p s hs hS h => ?_⟩
    have e0 := (show b.eval (.tmp 132) = .int .u8 ((xs.getD i 0).toNat : Int) from h.rd 5 _ _ 132 (by kernel_rfl) rfl rfl)
    have e1 := (show b.eval (.tmp 134) = .int .u8 (y.toNat : Int) from h.rd 7 _ _ 134 (by kernel_rfl) rfl rfl)
    have ec : ∀ v, b.eval (.const v) = v := fun _ => rfl
    obtain ⟨ρ, hρ⟩ : ∃ ρ, b.eval = ρ := ⟨_, rfl⟩
    rw [hρ] at e0 e1 ec ⊢
    exact ⟨_, by simp only [List.getElem?_toArray, List.getElem?_cons_succ, List.getElem?_cons_zero]; rfl, rfl, by unfold execOp; simp [go_sem, e0, e1, ec, u8_xor_u]⟩
  · refine ⟨⟨136, rfl⟩, .inl rfl, fun b p s hs hS h => ?_⟩
    have e0 := (show b.eval (.tmp 127) = .slice (some ⟨g, 0, none⟩) n cp from h.rd 0 _ _ 127 (by kernel_rfl) rfl rfl)
    have e1 := (show b.eval (.tmp 128) = .int .i64 (i : Int) from h.rd 1 _ _ 128 (by kernel_rfl) rfl rfl)
    have ec : ∀ v, b.eval (.const v) = v := fun _ => rfl
    obtain ⟨ρ, hρ⟩ : ∃ ρ, b.eval = ρ := ⟨_, rfl⟩
    rw [hρ] at e0 e1 ec ⊢
    exact ⟨_, by simp only [List.getElem?_toArray, List.getElem?_cons_succ, List.getElem?_cons_zero]; rfl, rfl, by unfold execOp; simp [go_sem, e0, e1, ec, show (i : Int) < n by omega, show i < n by omega]⟩
  · refine ⟨rfl, .inl rfl, fun b p hS h => ?_⟩
    have e0 := (show b.eval (.tmp 136) = .pointer (some ⟨g, i, none⟩) from h.rd 9 _ _ 136 (by kernel_rfl) rfl rfl)
    have e1 := (show b.eval (.tmp 135) = .int .u8 ((xs.getD i 0 ^^^ y).toNat : Int) from h.rd 8 _ _ 135 (by kernel_rfl) rfl rfl)
    obtain ⟨hf, hO⟩ := hS
    rw [if_pos (by decide)] at hO
    obtain ⟨cur, hA, hl, -, hset⟩ := own_blk hO
    refine opV_mono (K := fun _ p' => Fr [g] w p' ∧ OwnB 5 base p' (.slice (some ⟨g, 0, none⟩) n cp) (xs.set i (xs.getD i 0 ^^^ y))) (fun v p' hv => ⟨by show Fr [g] w p' ∧ OwnB 5 base p' (.slice (some ⟨g, 0, none⟩) n cp) (if 0 + 1 ≤ 0 then xs else (xs.set i (xs.getD i 0 ^^^ y))); rw [if_neg (by decide)]; exact hv, .inl rfl⟩) ?_
    refine opV_of_wpl (K := fun _ p' => Fr [g] w p' ∧ OwnB 5 base p' (.slice (some ⟨g, 0, none⟩) n cp) (xs.set i (xs.getD i 0 ^^^ y))) _ (by simp only [List.getElem?_toArray, List.getElem?_cons_succ, List.getElem?_cons_zero]; rfl) ?_
    refine wpl_store_one (.tmp 136) (.tmp 135) rfl rfl (.int .u8 ((xs.getD i 0 ^^^ y).toNat : Int)) e0 e1 hA (by omega) (by kernel_rfl) rfl ?_
    intro p1 f1 a1 _
    exact ⟨rfl, rfl, hf.trans f1, hset p1 i _ a1⟩
  · intro b p h1 h2 h3 h4 h5
    exact hQ b p h1 h2 (fun s hs => h3 s (fun hm => hs (by simpa using hm))) h4.1 (by have := h4.2; rwa [if_neg (by decide)] at this)
end Go.Proofs.YtfblhdomjnffcaaDoor
