/-
  Layer 1: field.Make's drawn region. (printed by genfld.py)
-/
import Derived.Test.YtenjpnhccnmnpaaDoorTab
import Derived.Test.YtenjpnhccnmnpaaDoorGB
namespace Go.Proofs.YtenjpnhccnmnpaaDoor
open Go.RowKit Go.Bl
set_option linter.unusedVariables false
def findRegionC (k : Nat) : Code → Option Code
  | .region i ops d => if i = k then some (.region i ops d) else none
  | .loop c => findRegionC k c
  | .seq a b => match findRegionC k a with
    | some c => some c
    | none => findRegionC k b
  | .block _ c => findRegionC k c
  | .scope c => findRegionC k c
  | .cond _ a b => match findRegionC k a with
    | some c => some c
    | none => findRegionC k b
  | _ => none

noncomputable def make_regR : Code := ((Tryd.f34.body.bind (findRegionC 6)).getD .skip)
set_option maxRecDepth 1000000 in
set_option maxHeartbeats 8000000 in
theorem make_reg (w : World) (a : Go.Act) (hsz : a.tmps.size = 36) (g k m : Nat) (c : Array Value) (hk : k < 255) (hcz : c.size = 766) (h1 : slot a 1 = .pointer (some ⟨g, 0, none⟩)) (h3 : slot a 3 = .int .i64 (k : Int)) (h2 : slot a 2 = .int .u8 (m : Int)) (hA : At w g (.cells c 83)) (Q : Exit → Go.Act → World → Prop)
    (hQ : ∀ (b : Go.Act) (p : World), b.defers = a.defers → b.tmps.size = a.tmps.size → (∀ s, s ∉ ([9, 10, 11, 12, 13, 14, 15, 16, 17, 18, 19, 20, 21] : List Nat) → slot b s = slot a s) → Fr [g] w p → At p g (.cells ((c.setIfInBounds k (.int .u8 (m : Int))).setIfInBounds (k + 255) (.int .u8 (m : Int))) 83) → Q .normal b p) : Code.wp Tryd.prog make_regR Q a w := by
  conv => arg 2; whnf
  refine wp_region_chain (by kernel_rfl) (by kernel_rfl) [some 9, some 10, some 11, some 12, some 13, some 14, some 15, some 16, some 17, some 18, none, some 19, some 20, some 21, none] [10, 14] [.rd (.pointer (some ⟨g, 0, none⟩)) 2, .rd (.int .i64 (k : Int)) 2, .rd (.pointer (some ⟨g, 0, none⟩)) 2, .rd (.int .i64 (k : Int)) 2, .rd (.int .i64 ((k + 255 : Nat) : Int)) 2, .rd (.int .u8 (m : Int)) 2, .rd (.int .u8 (m : Int)) 2, .rd (.pointer (some ⟨g, 0, none⟩)) 2, .rd (.pointer (some ⟨g, 0, none⟩)) 2, .rd (.pointer (some ⟨g, k, none⟩)) 2, .st 0, .rd (.pointer (some ⟨g, 0, none⟩)) 2, .rd (.pointer (some ⟨g, 0, none⟩)) 2, .rd (.pointer (some ⟨g, k + 255, none⟩)) 2, .st 1] (fun j => undef) (fun s p => Fr [g] w p ∧ At p g (.cells (([c, c.setIfInBounds k (.int .u8 (m : Int)), (c.setIfInBounds k (.int .u8 (m : Int))).setIfInBounds (k + 255) (.int .u8 (m : Int))] : List (Array Value)).getD s c) 83)) (by kernel_rfl) (by rfl) (by rw [hsz]; rfl) (by kernel_rfl) (by kernel_rfl) (by decide) ?_ ⟨?_, ?_, ?_, ?_, ?_, ?_, ?_, ?_, ?_, ?_, ?_, ?_, ?_, ?_, ?_, trivial⟩ ?_
  · intro w1 hw1
    exact ⟨hw1.weak, hA.keep0 hw1⟩
  · refine ⟨⟨9, rfl⟩, .inl rfl, fun b p s hs hS h => ?_⟩
    have e0 : b.eval (.tmp 1) = .pointer (some ⟨g, 0, none⟩) := (h.old 1 (by decide)).trans h1
    have ec : ∀ v, b.eval (.const v) = v := fun _ => rfl
    obtain ⟨ρ, hρ⟩ : ∃ ρ, b.eval = ρ := ⟨_, rfl⟩
    rw [hρ] at e0 ec ⊢
    exact ⟨_, by simp only [List.getElem?_toArray, List.getElem?_cons_succ, List.getElem?_cons_zero]; rfl, rfl, by unfold execOp; simp [go_sem, e0, ec]⟩
  · refine ⟨⟨10, rfl⟩, .inl rfl, fun b p s hs hS h => ?_⟩
    have e0 : b.eval (.tmp 3) = .int .i64 (k : Int) := (h.old 3 (by decide)).trans h3
    have ec : ∀ v, b.eval (.const v) = v := fun _ => rfl
    obtain ⟨ρ, hρ⟩ : ∃ ρ, b.eval = ρ := ⟨_, rfl⟩
    rw [hρ] at e0 ec ⊢
    exact ⟨_, by simp only [List.getElem?_toArray, List.getElem?_cons_succ, List.getElem?_cons_zero]; rfl, rfl, by unfold execOp; simp [go_sem, e0, ec]⟩
  · refine ⟨⟨11, rfl⟩, .inl rfl, fun b p s hs hS h => ?_⟩
    have e0 : b.eval (.tmp 1) = .pointer (some ⟨g, 0, none⟩) := (h.old 1 (by decide)).trans h1
    have ec : ∀ v, b.eval (.const v) = v := fun _ => rfl
    obtain ⟨ρ, hρ⟩ : ∃ ρ, b.eval = ρ := ⟨_, rfl⟩
    rw [hρ] at e0 ec ⊢
    exact ⟨_, by simp only [List.getElem?_toArray, List.getElem?_cons_succ, List.getElem?_cons_zero]; rfl, rfl, by unfold execOp; simp [go_sem, e0, ec]⟩
  · refine ⟨⟨12, rfl⟩, .inl rfl, fun b p s hs hS h => ?_⟩
    have e0 : b.eval (.tmp 3) = .int .i64 (k : Int) := (h.old 3 (by decide)).trans h3
    have ec : ∀ v, b.eval (.const v) = v := fun _ => rfl
    obtain ⟨ρ, hρ⟩ : ∃ ρ, b.eval = ρ := ⟨_, rfl⟩
    rw [hρ] at e0 ec ⊢
    exact ⟨_, by simp only [List.getElem?_toArray, List.getElem?_cons_succ, List.getElem?_cons_zero]; rfl, rfl, by unfold execOp; simp [go_sem, e0, ec]⟩
  · refine ⟨⟨13, rfl⟩, .inl rfl, fun b p s hs hS h => ?_⟩
    have e0 := (show b.eval (.tmp 12) = .int .i64 (k : Int) from h.rd 3 _ _ 12 (by kernel_rfl) rfl rfl)
    have ec : ∀ v, b.eval (.const v) = v := fun _ => rfl
    obtain ⟨ρ, hρ⟩ : ∃ ρ, b.eval = ρ := ⟨_, rfl⟩
    rw [hρ] at e0 ec ⊢
    exact ⟨_, by simp only [List.getElem?_toArray, List.getElem?_cons_succ, List.getElem?_cons_zero]; rfl, rfl, by unfold execOp; simp [go_sem, e0, ec, show IntKind.i64.wrap ((k : Int) + 255) = (k : Int) + 255 by rw [IntKind.wrap_i64]; omega]⟩
  · refine ⟨⟨14, rfl⟩, .inl rfl, fun b p s hs hS h => ?_⟩
    have e0 : b.eval (.tmp 2) = .int .u8 (m : Int) := (h.old 2 (by decide)).trans h2
    have ec : ∀ v, b.eval (.const v) = v := fun _ => rfl
    obtain ⟨ρ, hρ⟩ : ∃ ρ, b.eval = ρ := ⟨_, rfl⟩
    rw [hρ] at e0 ec ⊢
    exact ⟨_, by simp only [List.getElem?_toArray, List.getElem?_cons_succ, List.getElem?_cons_zero]; rfl, rfl, by unfold execOp; simp [go_sem, e0, ec]⟩
  · refine ⟨⟨15, rfl⟩, .inl rfl, fun b p s hs hS h => ?_⟩
    have e0 : b.eval (.tmp 2) = .int .u8 (m : Int) := (h.old 2 (by decide)).trans h2
    have ec : ∀ v, b.eval (.const v) = v := fun _ => rfl
    obtain ⟨ρ, hρ⟩ : ∃ ρ, b.eval = ρ := ⟨_, rfl⟩
    rw [hρ] at e0 ec ⊢
    exact ⟨_, by simp only [List.getElem?_toArray, List.getElem?_cons_succ, List.getElem?_cons_zero]; rfl, rfl, by unfold execOp; simp [go_sem, e0, ec]⟩
  · refine ⟨⟨16, rfl⟩, .inl rfl, fun b p s hs hS h => ?_⟩
    have e0 := (show b.eval (.tmp 9) = .pointer (some ⟨g, 0, none⟩) from h.rd 0 _ _ 9 (by kernel_rfl) rfl rfl)
    have ec : ∀ v, b.eval (.const v) = v := fun _ => rfl
    obtain ⟨ρ, hρ⟩ : ∃ ρ, b.eval = ρ := ⟨_, rfl⟩
    rw [hρ] at e0 ec ⊢
    exact ⟨_, by simp only [List.getElem?_toArray, List.getElem?_cons_succ, List.getElem?_cons_zero]; rfl, rfl, by unfold execOp; simp [go_sem, e0, ec]⟩
  · refine ⟨⟨17, rfl⟩, .inl rfl, fun b p s hs hS h => ?_⟩
    have e0 := (show b.eval (.tmp 16) = .pointer (some ⟨g, 0, none⟩) from h.rd 7 _ _ 16 (by kernel_rfl) rfl rfl)
    have ec : ∀ v, b.eval (.const v) = v := fun _ => rfl
    obtain ⟨ρ, hρ⟩ : ∃ ρ, b.eval = ρ := ⟨_, rfl⟩
    rw [hρ] at e0 ec ⊢
    exact ⟨_, by simp only [List.getElem?_toArray, List.getElem?_cons_succ, List.getElem?_cons_zero]; rfl, rfl, by unfold execOp; simp [go_sem, e0, ec]⟩
  · refine ⟨⟨18, rfl⟩, .inl rfl, fun b p s hs hS h => ?_⟩
    have e0 := (show b.eval (.tmp 17) = .pointer (some ⟨g, 0, none⟩) from h.rd 8 _ _ 17 (by kernel_rfl) rfl rfl)
    have e1 := (show b.eval (.tmp 10) = .int .i64 (k : Int) from h.rd 1 _ _ 10 (by kernel_rfl) rfl rfl)
    have ec : ∀ v, b.eval (.const v) = v := fun _ => rfl
    obtain ⟨ρ, hρ⟩ : ∃ ρ, b.eval = ρ := ⟨_, rfl⟩
    rw [hρ] at e0 e1 ec ⊢
    exact ⟨_, by simp only [List.getElem?_toArray, List.getElem?_cons_succ, List.getElem?_cons_zero]; rfl, rfl, by unfold execOp; simp [go_sem, e0, e1, ec, show ¬ (510 : Int) ≤ (k : Int) by omega]⟩
  · refine ⟨rfl, .inl rfl, fun b p hS h => ?_⟩
    have e0 := (show b.eval (.tmp 18) = .pointer (some ⟨g, k, none⟩) from h.rd 9 _ _ 18 (by kernel_rfl) rfl rfl)
    have e1 := (show b.eval (.tmp 14) = .int .u8 (m : Int) from h.rd 5 _ _ 14 (by kernel_rfl) rfl rfl)
    obtain ⟨hf, hA⟩ := hS
    refine opV_mono (K := fun _ p' => Fr [g] w p' ∧ At p' g (.cells (([c, c.setIfInBounds k (.int .u8 (m : Int)), (c.setIfInBounds k (.int .u8 (m : Int))).setIfInBounds (k + 255) (.int .u8 (m : Int))] : List (Array Value)).getD (0 + 1) c) 83)) (fun v p' hv => ⟨hv, .inl rfl⟩) ?_
    refine opV_of_wpl (K := fun _ p' => Fr [g] w p' ∧ At p' g (.cells (([c, c.setIfInBounds k (.int .u8 (m : Int)), (c.setIfInBounds k (.int .u8 (m : Int))).setIfInBounds (k + 255) (.int .u8 (m : Int))] : List (Array Value)).getD (0 + 1) c) 83)) _ (by simp only [List.getElem?_toArray, List.getElem?_cons_succ, List.getElem?_cons_zero]; rfl) ?_
    refine wpl_store_one (.tmp 18) (.tmp 14) rfl rfl (.int .u8 (m : Int)) e0 e1 hA (by show k < c.size; omega) (by kernel_rfl) rfl ?_
    intro p1 f1 a1 _
    exact ⟨rfl, rfl, hf.trans f1, a1⟩
  · refine ⟨⟨19, rfl⟩, .inl rfl, fun b p s hs hS h => ?_⟩
    have e0 := (show b.eval (.tmp 11) = .pointer (some ⟨g, 0, none⟩) from h.rd 2 _ _ 11 (by kernel_rfl) rfl rfl)
    have ec : ∀ v, b.eval (.const v) = v := fun _ => rfl
    obtain ⟨ρ, hρ⟩ : ∃ ρ, b.eval = ρ := ⟨_, rfl⟩
    rw [hρ] at e0 ec ⊢
    exact ⟨_, by simp only [List.getElem?_toArray, List.getElem?_cons_succ, List.getElem?_cons_zero]; rfl, rfl, by unfold execOp; simp [go_sem, e0, ec]⟩
  · refine ⟨⟨20, rfl⟩, .inl rfl, fun b p s hs hS h => ?_⟩
    have e0 := (show b.eval (.tmp 19) = .pointer (some ⟨g, 0, none⟩) from h.rd 11 _ _ 19 (by kernel_rfl) rfl rfl)
    have ec : ∀ v, b.eval (.const v) = v := fun _ => rfl
    obtain ⟨ρ, hρ⟩ : ∃ ρ, b.eval = ρ := ⟨_, rfl⟩
    rw [hρ] at e0 ec ⊢
    exact ⟨_, by simp only [List.getElem?_toArray, List.getElem?_cons_succ, List.getElem?_cons_zero]; rfl, rfl, by unfold execOp; simp [go_sem, e0, ec]⟩
  · refine ⟨⟨21, rfl⟩, .inl rfl, fun b p s hs hS h => ?_⟩
    have e0 := (show b.eval (.tmp 20) = .pointer (some ⟨g, 0, none⟩) from h.rd 12 _ _ 20 (by kernel_rfl) rfl rfl)
    have e1 := (show b.eval (.tmp 13) = .int .i64 ((k + 255 : Nat) : Int) from h.rd 4 _ _ 13 (by kernel_rfl) rfl rfl)
    have ec : ∀ v, b.eval (.const v) = v := fun _ => rfl
    obtain ⟨ρ, hρ⟩ : ∃ ρ, b.eval = ρ := ⟨_, rfl⟩
    rw [hρ] at e0 e1 ec ⊢
    exact ⟨_, by simp only [List.getElem?_toArray, List.getElem?_cons_succ, List.getElem?_cons_zero]; rfl, rfl, by unfold execOp; simp [go_sem, e0, e1, ec, show 0 ≤ (k : Int) + 255 ∧ (k : Int) + 255 < 510 by omega, show ((k : Int) + 255).toNat = k + 255 by omega]⟩
  · refine ⟨rfl, .inr ⟨10, rfl, by kernel_rfl⟩, fun b p hS h => ?_⟩
    have e0 := (show b.eval (.tmp 21) = .pointer (some ⟨g, k + 255, none⟩) from h.rd 13 _ _ 21 (by kernel_rfl) rfl rfl)
    have e1 := (show b.eval (.tmp 15) = .int .u8 (m : Int) from h.rd 6 _ _ 15 (by kernel_rfl) rfl rfl)
    obtain ⟨hf, hA⟩ := hS
    refine opV_mono (K := fun _ p' => Fr [g] w p' ∧ At p' g (.cells (([c, c.setIfInBounds k (.int .u8 (m : Int)), (c.setIfInBounds k (.int .u8 (m : Int))).setIfInBounds (k + 255) (.int .u8 (m : Int))] : List (Array Value)).getD (1 + 1) c) 83)) (fun v p' hv => ⟨hv, .inl rfl⟩) ?_
    refine opV_of_wpl (K := fun _ p' => Fr [g] w p' ∧ At p' g (.cells (([c, c.setIfInBounds k (.int .u8 (m : Int)), (c.setIfInBounds k (.int .u8 (m : Int))).setIfInBounds (k + 255) (.int .u8 (m : Int))] : List (Array Value)).getD (1 + 1) c) 83)) _ (by simp only [List.getElem?_toArray, List.getElem?_cons_succ, List.getElem?_cons_zero]; rfl) ?_
    refine wpl_store_one (.tmp 21) (.tmp 15) rfl rfl (.int .u8 (m : Int)) e0 e1 hA (by show k + 255 < (c.setIfInBounds k _).size; rw [Array.size_setIfInBounds]; omega) (by kernel_rfl) rfl ?_
    intro p1 f1 a1 _
    exact ⟨rfl, rfl, hf.trans f1, a1⟩
  · intro b p h1 h2 h3 h4 h5
    exact hQ b p h1 h2 (fun s hs => h3 s (fun hm => hs (by simpa using hm))) h4.1 h4.2
end Go.Proofs.YtenjpnhccnmnpaaDoor
