/-
  The law LocateEquation: the drawn regions 'w[p] = w[p] ^ c.By'. (printed by genxor.py)
-/
import Derived.Test.YtfblhdomjnffcaaDoorPm
import Derived.Test.YtfblhdomjnffcaaDoorOwb
namespace Go.Proofs.YtfblhdomjnffcaaDoor
open Go.RowKit Go.Bl
set_option linter.unusedVariables false

noncomputable def leq_xorR : Code := ((Tryd.f7.body.bind (findRegionC 16)).getD .skip)
set_option maxRecDepth 1000000 in
set_option maxHeartbeats 8000000 in
theorem leq_xor (w : World) (a : Go.Act) (hsz : a.tmps.size = 149) (g n cp i cb base : Nat) (y : UInt8) (xs : List UInt8) (hi : i < n) (hn : n ≤ 1000000) (hl : xs.length = n) (hcb : cb ≠ g) (h5 : slot a 5 = .slice (some ⟨g, 0, none⟩) n cp) (h11 : slot a 11 = .int .i64 (i : Int)) (h10 : slot a 10 = .pointer (some ⟨cb, 0, none⟩)) (hO : OwnB 5 base w (.slice (some ⟨g, 0, none⟩) n cp) xs) (hc : w.cell? ⟨cb, 1, none⟩ = some (.int .u8 (y.toNat : Int))) (Q : Exit → Go.Act → World → Prop)
    (hQ : ∀ (b : Go.Act) (p : World), b.defers = a.defers → b.tmps.size = a.tmps.size → (∀ s, s ∉ ([77, 78, 79, 80, 81, 82, 83, 84, 85, 86] : List Nat) → slot b s = slot a s) → Fr [g] w p → OwnB 5 base p (.slice (some ⟨g, 0, none⟩) n cp) (xs.set i (xs.getD i 0 ^^^ y)) → Q .normal b p) : Code.wp Tryd.prog leq_xorR Q a w := by
  conv => arg 2; whnf
  refine wp_region_chain (by kernel_rfl) (by kernel_rfl) [some 77, some 78, some 79, some 80, some 81, some 82, some 83, some 84, some 85, some 86, none] [10] [.rd (.slice (some ⟨g, 0, none⟩) n cp) 1, .rd (.int .i64 (i : Int)) 1, .rd (.slice (some ⟨g, 0, none⟩) n cp) 1, .rd (.int .i64 (i : Int)) 1, .rd (.pointer (some ⟨g, i, none⟩)) 1, .rd (.int .u8 ((xs.getD i 0).toNat : Int)) 0, .rd (.pointer (some ⟨cb, 1, none⟩)) 1, .rd (.int .u8 (y.toNat : Int)) 1, .rd (.int .u8 ((xs.getD i 0 ^^^ y).toNat : Int)) 1, .rd (.pointer (some ⟨g, i, none⟩)) 1, .st 0] (fun j => undef) (fun s p => Fr [g] w p ∧ OwnB 5 base p (.slice (some ⟨g, 0, none⟩) n cp) (if s ≤ 0 then xs else (xs.set i (xs.getD i 0 ^^^ y)))) (by kernel_rfl) (by rfl) (by rw [hsz]; rfl) (by kernel_rfl) (by kernel_rfl) (by decide) ?_ ⟨?_, ?_, ?_, ?_, ?_, ?_, ?_, ?_, ?_, ?_, ?_, trivial⟩ ?_
  · intro w1 hw1
    exact ⟨hw1.weak, by rw [if_pos (by decide)]; exact hO.keep hw1 (by simp)⟩
  · refine ⟨⟨77, rfl⟩, .inl rfl, fun b p s hs hS h => ?_⟩
    have e0 : b.eval (.tmp 5) = .slice (some ⟨g, 0, none⟩) n cp := (h.old 5 (by decide)).trans h5
    have ec : ∀ v, b.eval (.const v) = v := fun _ => rfl
    obtain ⟨ρ, hρ⟩ : ∃ ρ, b.eval = ρ := ⟨_, rfl⟩
    rw [hρ] at e0 ec ⊢
    exact ⟨_, by simp only [List.getElem?_toArray, List.getElem?_cons_succ, List.getElem?_cons_zero]; rfl, rfl, by unfold execOp; simp [go_sem, e0, ec]⟩
  · refine ⟨⟨78, rfl⟩, .inl rfl, fun b p s hs hS h => ?_⟩
    have e0 : b.eval (.tmp 11) = .int .i64 (i : Int) := (h.old 11 (by decide)).trans h11
    have ec : ∀ v, b.eval (.const v) = v := fun _ => rfl
    obtain ⟨ρ, hρ⟩ : ∃ ρ, b.eval = ρ := ⟨_, rfl⟩
    rw [hρ] at e0 ec ⊢
    exact ⟨_, by simp only [List.getElem?_toArray, List.getElem?_cons_succ, List.getElem?_cons_zero]; rfl, rfl, by unfold execOp; simp [go_sem, e0, ec]⟩
  · refine ⟨⟨79, rfl⟩, .inl rfl, fun b p s hs hS h => ?_⟩
    have e0 : b.eval (.tmp 5) = .slice (some ⟨g, 0, none⟩) n cp := (h.old 5 (by decide)).trans h5
    have ec : ∀ v, b.eval (.const v) = v := fun _ => rfl
    obtain ⟨ρ, hρ⟩ : ∃ ρ, b.eval = ρ := ⟨_, rfl⟩
    rw [hρ] at e0 ec ⊢
    exact ⟨_, by simp only [List.getElem?_toArray, List.getElem?_cons_succ, List.getElem?_cons_zero]; rfl, rfl, by unfold execOp; simp [go_sem, e0, ec]⟩
  · refine ⟨⟨80, rfl⟩, .inl rfl, fun b p s hs hS h => ?_⟩
    have e0 : b.eval (.tmp 11) = .int .i64 (i : Int) := (h.old 11 (by decide)).trans h11
    have ec : ∀ v, b.eval (.const v) = v := fun _ => rfl
    obtain ⟨ρ, hρ⟩ : ∃ ρ, b.eval = ρ := ⟨_, rfl⟩
    rw [hρ] at e0 ec ⊢
    exact ⟨_, by simp only [List.getElem?_toArray, List.getElem?_cons_succ, List.getElem?_cons_zero]; rfl, rfl, by unfold execOp; simp [go_sem, e0, ec]⟩
  · refine ⟨⟨81, rfl⟩, .inl rfl, fun b p s hs hS h => ?_⟩
    have e0 := (show b.eval (.tmp 79) = .slice (some ⟨g, 0, none⟩) n cp from h.rd 2 _ _ 79 (by kernel_rfl) rfl rfl)
    have e1 := (show b.eval (.tmp 80) = .int .i64 (i : Int) from h.rd 3 _ _ 80 (by kernel_rfl) rfl rfl)
    have ec : ∀ v, b.eval (.const v) = v := fun _ => rfl
    obtain ⟨ρ, hρ⟩ : ∃ ρ, b.eval = ρ := ⟨_, rfl⟩
    rw [hρ] at e0 e1 ec ⊢
    exact ⟨_, by simp only [List.getElem?_toArray, List.getElem?_cons_succ, List.getElem?_cons_zero]; rfl, rfl, by unfold execOp; simp [go_sem, e0, e1, ec, show (i : Int) < n by omega, show i < n by omega]⟩
  · refine ⟨⟨82, rfl⟩, .inr ⟨10, rfl, by kernel_rfl⟩, fun b p s hs hS h => ?_⟩
    have e0 := (show b.eval (.tmp 81) = .pointer (some ⟨g, i, none⟩) from h.rd 4 _ _ 81 (by kernel_rfl) rfl rfl)
    have c0 := (show p.cell? ⟨g, i, none⟩ = some (.int .u8 ((xs.getD i 0).toNat : Int)) from by have hA := hS.2; rw [if_pos hs] at hA; exact own_cellB hA (by omega))
    have ec : ∀ v, b.eval (.const v) = v := fun _ => rfl
    obtain ⟨ρ, hρ⟩ : ∃ ρ, b.eval = ρ := ⟨_, rfl⟩
    rw [hρ] at e0 ec ⊢
    exact ⟨_, by simp only [List.getElem?_toArray, List.getElem?_cons_succ, List.getElem?_cons_zero]; rfl, rfl, by unfold execOp; simp [go_sem, e0, ec, c0]⟩
  · refine ⟨⟨83, rfl⟩, .inl rfl, fun b p s hs hS h => ?_⟩
    have e0 : b.eval (.tmp 10) = .pointer (some ⟨cb, 0, none⟩) := (h.old 10 (by decide)).trans h10
    have ec : ∀ v, b.eval (.const v) = v := fun _ => rfl
    obtain ⟨ρ, hρ⟩ : ∃ ρ, b.eval = ρ := ⟨_, rfl⟩
    rw [hρ] at e0 ec ⊢
    exact ⟨_, by simp only [List.getElem?_toArray, List.getElem?_cons_succ, List.getElem?_cons_zero]; rfl, rfl, by unfold execOp; simp [go_sem, e0, ec]⟩
  · refine ⟨⟨84, rfl⟩, .inl rfl, fun b p s hs hS h => ?_⟩
    have e0 := (show b.eval (.tmp 83) = .pointer (some ⟨cb, 1, none⟩) from h.rd 6 _ _ 83 (by kernel_rfl) rfl rfl)
    have c0 := (show p.cell? ⟨cb, 1, none⟩ = some (.int .u8 (y.toNat : Int)) from cell_keep hS.1 (by simpa using hcb) hc)
    have ec : ∀ v, b.eval (.const v) = v := fun _ => rfl
    obtain ⟨ρ, hρ⟩ : ∃ ρ, b.eval = ρ := ⟨_, rfl⟩
    rw [hρ] at e0 ec ⊢
    exact ⟨_, by simp only [List.getElem?_toArray, List.getElem?_cons_succ, List.getElem?_cons_zero]; rfl, rfl, by unfold execOp; simp [go_sem, e0, ec, c0]⟩
  · refine ⟨⟨85, rfl⟩, .inl rfl, fun b p s hs hS h => ?_⟩
    have e0 := (show b.eval (.tmp 82) = .int .u8 ((xs.getD i 0).toNat : Int) from h.rd 5 _ _ 82 (by kernel_rfl) rfl rfl)
    have e1 := (show b.eval (.tmp 84) = .int .u8 (y.toNat : Int) from h.rd 7 _ _ 84 (by kernel_rfl) rfl rfl)
    have ec : ∀ v, b.eval (.const v) = v := fun _ => rfl
    obtain ⟨ρ, hρ⟩ : ∃ ρ, b.eval = ρ := ⟨_, rfl⟩
    rw [hρ] at e0 e1 ec ⊢
    exact ⟨_, by simp only [List.getElem?_toArray, List.getElem?_cons_succ, List.getElem?_cons_zero]; rfl, rfl, by unfold execOp; simp [go_sem, e0, e1, ec, u8_xor_u]⟩
  · refine ⟨⟨86, rfl⟩, .inl rfl, fun b p s hs hS h => ?_⟩
    have e0 := (show b.eval (.tmp 77) = .slice (some ⟨g, 0, none⟩) n cp from h.rd 0 _ _ 77 (by kernel_rfl) rfl rfl)
    have e1 := (show b.eval (.tmp 78) = .int .i64 (i : Int) from h.rd 1 _ _ 78 (by kernel_rfl) rfl rfl)
    have ec : ∀ v, b.eval (.const v) = v := fun _ => rfl
    obtain ⟨ρ, hρ⟩ : ∃ ρ, b.eval = ρ := ⟨_, rfl⟩
    rw [hρ] at e0 e1 ec ⊢
    exact ⟨_, by simp only [List.getElem?_toArray, List.getElem?_cons_succ, List.getElem?_cons_zero]; rfl, rfl, by unfold execOp; simp [go_sem, e0, e1, ec, show (i : Int) < n by omega, show i < n by omega]⟩
  · refine ⟨rfl, .inl rfl, fun b p hS h => ?_⟩
    have e0 := (show b.eval (.tmp 86) = .pointer (some ⟨g, i, none⟩) from h.rd 9 _ _ 86 (by kernel_rfl) rfl rfl)
    have e1 := (show b.eval (.tmp 85) = .int .u8 ((xs.getD i 0 ^^^ y).toNat : Int) from h.rd 8 _ _ 85 (by kernel_rfl) rfl rfl)
    obtain ⟨hf, hO⟩ := hS
    rw [if_pos (by decide)] at hO
    obtain ⟨cur, hA, hl, -, hset⟩ := own_blk hO
    refine opV_mono (K := fun _ p' => Fr [g] w p' ∧ OwnB 5 base p' (.slice (some ⟨g, 0, none⟩) n cp) (xs.set i (xs.getD i 0 ^^^ y))) (fun v p' hv => ⟨by show Fr [g] w p' ∧ OwnB 5 base p' (.slice (some ⟨g, 0, none⟩) n cp) (if 0 + 1 ≤ 0 then xs else (xs.set i (xs.getD i 0 ^^^ y))); rw [if_neg (by decide)]; exact hv, .inl rfl⟩) ?_
    refine opV_of_wpl (K := fun _ p' => Fr [g] w p' ∧ OwnB 5 base p' (.slice (some ⟨g, 0, none⟩) n cp) (xs.set i (xs.getD i 0 ^^^ y))) _ (by simp only [List.getElem?_toArray, List.getElem?_cons_succ, List.getElem?_cons_zero]; rfl) ?_
    refine wpl_store_one (.tmp 86) (.tmp 85) rfl rfl (.int .u8 ((xs.getD i 0 ^^^ y).toNat : Int)) e0 e1 hA (by omega) (by kernel_rfl) rfl ?_
    intro p1 f1 a1 _
    exact ⟨rfl, rfl, hf.trans f1, hset p1 i _ a1⟩
  · intro b p h1 h2 h3 h4 h5
    exact hQ b p h1 h2 (fun s hs => h3 s (fun hm => hs (by simpa using hm))) h4.1 (by have := h4.2; rwa [if_neg (by decide)] at this)
end Go.Proofs.YtfblhdomjnffcaaDoor
