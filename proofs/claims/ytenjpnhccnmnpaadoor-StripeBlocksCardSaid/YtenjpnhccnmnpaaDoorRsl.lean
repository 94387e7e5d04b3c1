/-
  baileenum.SameLists' drawn region. (printed by genrsl.py)
-/
import Derived.Test.YtenjpnhccnmnpaaDoorPm
import Derived.Test.YtenjpnhccnmnpaaDoorStr
namespace Go.Proofs.YtenjpnhccnmnpaaDoor
open Go.RowKit Go.Bl
set_option linter.unusedVariables false

noncomputable def same_regR : Code := ((Tryd.f13.body.bind (findRegionC 6)).getD .skip)
set_option maxRecDepth 1000000 in
set_option maxHeartbeats 8000000 in
theorem same_reg (w : World) (a : Go.Act) (hsz : a.tmps.size = 28) (b1 o1 c1 b2 o2 c2 n k : Nat) (x y : Value) (xs : List UInt8) (S : ByteArray) (hS1 : (⟨xs.toArray⟩ : ByteArray) = S) (hkn : k < n) (hn : n ≤ 1000000) (h0 : slot a 0 = .slice (some ⟨b1, o1, none⟩) n c1) (h1 : slot a 1 = .slice (some ⟨b2, o2, none⟩) n c2) (h5 : slot a 5 = .int .i64 (k : Int)) (hx : w.cell? ⟨b1, o1 + k, none⟩ = some x) (hy : w.cell? ⟨b2, o2 + k, none⟩ = some y) (hbx : Bs (fun _ => False) w x xs) (hby : Bs (fun _ => False) w y xs) (Q : Exit → Go.Act → World → Prop)
    (hQ : ∀ (b : Go.Act) (p : World), b.defers = a.defers → b.tmps.size = a.tmps.size → (∀ s, s ∉ ([16, 17, 18, 19, 20, 21, 22, 23, 24, 25, 26] : List Nat) → slot b s = slot a s) → slot b 26 = .bool false → Fr [] w p → Q .normal b p) : Code.wp Tryd.prog same_regR Q a w := by
  conv => arg 2; whnf
  refine wp_region_chain (by kernel_rfl) (by kernel_rfl) [some 16, some 17, some 18, some 19, some 20, some 21, some 22, some 23, some 24, some 25, some 26] [] [.rd (.slice (some ⟨b1, o1, none⟩) n c1) 0, .rd (.int .i64 (k : Int)) 0, .rd (.pointer (some ⟨b1, o1 + k, none⟩)) 0, .rd (x) 0, .rd (.string S) 0, .rd (.slice (some ⟨b2, o2, none⟩) n c2) 0, .rd (.int .i64 (k : Int)) 0, .rd (.pointer (some ⟨b2, o2 + k, none⟩)) 0, .rd (y) 0, .rd (.string S) 0, .rd (.bool false) 0] (fun j => undef) (fun _ p => Fr [] w p) (by kernel_rfl) (by rfl) (by rw [hsz]; rfl) (by kernel_rfl) (by kernel_rfl) (by decide) ?_ ⟨?_, ?_, ?_, ?_, ?_, ?_, ?_, ?_, ?_, ?_, ?_, trivial⟩ ?_
  · intro w1 hw1
    exact hw1
  · refine ⟨⟨16, rfl⟩, .inl rfl, fun b p s hs hS h => ?_⟩
    have e0 : b.eval (.tmp 0) = .slice (some ⟨b1, o1, none⟩) n c1 := (h.old 0 (by decide)).trans h0
    have ec : ∀ v, b.eval (.const v) = v := fun _ => rfl
    obtain ⟨ρ, hρ⟩ : ∃ ρ, b.eval = ρ := ⟨_, rfl⟩
    rw [hρ] at e0 ec ⊢
    exact ⟨_, by simp only [List.getElem?_toArray, List.getElem?_cons_succ, List.getElem?_cons_zero]; rfl, rfl, by unfold execOp; simp [go_sem, e0, ec]⟩
  · refine ⟨⟨17, rfl⟩, .inl rfl, fun b p s hs hS h => ?_⟩
    have e0 : b.eval (.tmp 5) = .int .i64 (k : Int) := (h.old 5 (by decide)).trans h5
    have ec : ∀ v, b.eval (.const v) = v := fun _ => rfl
    obtain ⟨ρ, hρ⟩ : ∃ ρ, b.eval = ρ := ⟨_, rfl⟩
    rw [hρ] at e0 ec ⊢
    exact ⟨_, by simp only [List.getElem?_toArray, List.getElem?_cons_succ, List.getElem?_cons_zero]; rfl, rfl, by unfold execOp; simp [go_sem, e0, ec]⟩
  · refine ⟨⟨18, rfl⟩, .inl rfl, fun b p s hs hS h => ?_⟩
    have e0 := (show b.eval (.tmp 16) = .slice (some ⟨b1, o1, none⟩) n c1 from h.rd 0 _ _ 16 (by kernel_rfl) rfl rfl)
    have e1 := (show b.eval (.tmp 17) = .int .i64 (k : Int) from h.rd 1 _ _ 17 (by kernel_rfl) rfl rfl)
    have ec : ∀ v, b.eval (.const v) = v := fun _ => rfl
    obtain ⟨ρ, hρ⟩ : ∃ ρ, b.eval = ρ := ⟨_, rfl⟩
    rw [hρ] at e0 e1 ec ⊢
    exact ⟨_, by simp only [List.getElem?_toArray, List.getElem?_cons_succ, List.getElem?_cons_zero]; rfl, rfl, by unfold execOp; simp [go_sem, e0, e1, ec, hkn, show (k : Int) < n by omega]⟩
  · refine ⟨⟨19, rfl⟩, .inl rfl, fun b p s hs hS h => ?_⟩
    have e0 := (show b.eval (.tmp 18) = .pointer (some ⟨b1, o1 + k, none⟩) from h.rd 2 _ _ 18 (by kernel_rfl) rfl rfl)
    have c0 := cell_mono hS hx
    have ec : ∀ v, b.eval (.const v) = v := fun _ => rfl
    obtain ⟨ρ, hρ⟩ : ∃ ρ, b.eval = ρ := ⟨_, rfl⟩
    rw [hρ] at e0 ec ⊢
    exact ⟨_, by simp only [List.getElem?_toArray, List.getElem?_cons_succ, List.getElem?_cons_zero]; rfl, rfl, by unfold execOp; simp [go_sem, e0, ec, c0]⟩
  · refine ⟨⟨20, rfl⟩, .inl rfl, fun b p s hs hS h => ?_⟩
    have e0 := (show b.eval (.tmp 19) = x from h.rd 3 _ _ 19 (by kernel_rfl) rfl rfl)
    exact ⟨_, by simp only [List.getElem?_toArray, List.getElem?_cons_succ, List.getElem?_cons_zero]; rfl, rfl, run_strO (src := 22) (dst := 9) Tryd.underlying22 Tryd.underlying5 Tryd.underlying9 (.tmp 19) rfl e0 (hbx.keep hS (by simp)) S hS1⟩
  · refine ⟨⟨21, rfl⟩, .inl rfl, fun b p s hs hS h => ?_⟩
    have e0 : b.eval (.tmp 1) = .slice (some ⟨b2, o2, none⟩) n c2 := (h.old 1 (by decide)).trans h1
    have ec : ∀ v, b.eval (.const v) = v := fun _ => rfl
    obtain ⟨ρ, hρ⟩ : ∃ ρ, b.eval = ρ := ⟨_, rfl⟩
    rw [hρ] at e0 ec ⊢
    exact ⟨_, by simp only [List.getElem?_toArray, List.getElem?_cons_succ, List.getElem?_cons_zero]; rfl, rfl, by unfold execOp; simp [go_sem, e0, ec]⟩
  · refine ⟨⟨22, rfl⟩, .inl rfl, fun b p s hs hS h => ?_⟩
    have e0 : b.eval (.tmp 5) = .int .i64 (k : Int) := (h.old 5 (by decide)).trans h5
    have ec : ∀ v, b.eval (.const v) = v := fun _ => rfl
    obtain ⟨ρ, hρ⟩ : ∃ ρ, b.eval = ρ := ⟨_, rfl⟩
    rw [hρ] at e0 ec ⊢
    exact ⟨_, by simp only [List.getElem?_toArray, List.getElem?_cons_succ, List.getElem?_cons_zero]; rfl, rfl, by unfold execOp; simp [go_sem, e0, ec]⟩
  · refine ⟨⟨23, rfl⟩, .inl rfl, fun b p s hs hS h => ?_⟩
    have e0 := (show b.eval (.tmp 21) = .slice (some ⟨b2, o2, none⟩) n c2 from h.rd 5 _ _ 21 (by kernel_rfl) rfl rfl)
    have e1 := (show b.eval (.tmp 22) = .int .i64 (k : Int) from h.rd 6 _ _ 22 (by kernel_rfl) rfl rfl)
    have ec : ∀ v, b.eval (.const v) = v := fun _ => rfl
    obtain ⟨ρ, hρ⟩ : ∃ ρ, b.eval = ρ := ⟨_, rfl⟩
    rw [hρ] at e0 e1 ec ⊢
    exact ⟨_, by simp only [List.getElem?_toArray, List.getElem?_cons_succ, List.getElem?_cons_zero]; rfl, rfl, by unfold execOp; simp [go_sem, e0, e1, ec, hkn, show (k : Int) < n by omega]⟩
  · refine ⟨⟨24, rfl⟩, .inl rfl, fun b p s hs hS h => ?_⟩
    have e0 := (show b.eval (.tmp 23) = .pointer (some ⟨b2, o2 + k, none⟩) from h.rd 7 _ _ 23 (by kernel_rfl) rfl rfl)
    have c0 := cell_mono hS hy
    have ec : ∀ v, b.eval (.const v) = v := fun _ => rfl
    obtain ⟨ρ, hρ⟩ : ∃ ρ, b.eval = ρ := ⟨_, rfl⟩
    rw [hρ] at e0 ec ⊢
    exact ⟨_, by simp only [List.getElem?_toArray, List.getElem?_cons_succ, List.getElem?_cons_zero]; rfl, rfl, by unfold execOp; simp [go_sem, e0, ec, c0]⟩
  · refine ⟨⟨25, rfl⟩, .inl rfl, fun b p s hs hS h => ?_⟩
    have e0 := (show b.eval (.tmp 24) = y from h.rd 8 _ _ 24 (by kernel_rfl) rfl rfl)
    exact ⟨_, by simp only [List.getElem?_toArray, List.getElem?_cons_succ, List.getElem?_cons_zero]; rfl, rfl, run_strO (src := 22) (dst := 9) Tryd.underlying22 Tryd.underlying5 Tryd.underlying9 (.tmp 24) rfl e0 (hby.keep hS (by simp)) S hS1⟩
  · refine ⟨⟨26, rfl⟩, .inl rfl, fun b p s hs hS h => ?_⟩
    have e0 := (show b.eval (.tmp 20) = .string S from h.rd 4 _ _ 20 (by kernel_rfl) rfl rfl)
    have e1 := (show b.eval (.tmp 25) = .string S from h.rd 9 _ _ 25 (by kernel_rfl) rfl rfl)
    have ec : ∀ v, b.eval (.const v) = v := fun _ => rfl
    obtain ⟨ρ, hρ⟩ : ∃ ρ, b.eval = ρ := ⟨_, rfl⟩
    rw [hρ] at e0 e1 ec ⊢
    exact ⟨_, by simp only [List.getElem?_toArray, List.getElem?_cons_succ, List.getElem?_cons_zero]; rfl, rfl, by unfold execOp; simp [go_sem, e0, e1, ec]⟩
  · intro b p h1 h2 h3 h4 h5
    exact hQ b p h1 h2 (fun s hs => h3 s (fun hm => hs (by simpa using hm))) (h5 10 (.bool false) 0 26 rfl rfl) h4
end Go.Proofs.YtenjpnhccnmnpaaDoor
