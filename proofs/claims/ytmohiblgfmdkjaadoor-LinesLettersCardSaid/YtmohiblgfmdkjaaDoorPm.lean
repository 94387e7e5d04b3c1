/-
  Layer 2: poly.Mul's drawn region. (printed by genpm.py)
-/
import Derived.Test.YtmohiblgfmdkjaaDoorGD
namespace Go.Proofs.YtmohiblgfmdkjaaDoor
open Go.RowKit Go.Bl
set_option linter.unusedVariables false

theorem opV_tmul {ops : Array Oper} {i : Nat} {b : Go.Act} {p : World} (o : Oper) (ho : ops[i]? = some o) (hg : o.guard = none) (k1 k2 k3 : Nat) (hop : o.op = .call { callee := .value (.func 65), args := #[.tmp k1, .tmp k2, .tmp k3], argTypes := #[142, 5, 5] })
    (tb : Nat) (x y : UInt8) (h1 : b.eval (.tmp k1) = .pointer (some ⟨tb, 0, none⟩)) (h2 : b.eval (.tmp k2) = .int .u8 (x.toNat : Int)) (h3 : b.eval (.tmp k3) = .int .u8 (y.toNat : Int)) (hT : At p tb (.cells tabF 171)) :
    opV Tryd.prog ops i b p fun v p' => v = .int .u8 ((gmul x y).toNat : Int) ∧ Fr [] p p' := by
  have hf : b.eval (.func 65) = .func (.func 65) #[] #[] := rfl
  unfold opV
  simp only [ho, Region.wanted, hg, if_true]
  obtain ⟨ρ, hρ⟩ : ∃ ρ, b.eval = ρ := ⟨_, rfl⟩
  rw [hρ] at h1 h2 h3 hf ⊢
  have hr : (execOp ρ o).run Tryd.prog p = .ok (.enter 65 #[.pointer (some ⟨tb, 0, none⟩), u8v x, u8v y]) p := by
    unfold execOp
    simp [hop, resolve, invoke, go_sem, h1, h2, h3, hf, u8v]
  rw [hr]
  refine (tmul_any p tb hT x y).mono ?_
  rintro e p' ⟨rfl, hf⟩
  exact ⟨rfl, hf⟩
theorem byte_cell {w : World} {g i : Nat} {t : TypeId} {xs : List UInt8} (h : At w g (.cells (xs.map u8v).toArray t)) (hi : i < xs.length) : w.cell? ⟨g, i, none⟩ = some (.int .u8 ((xs.getD i 0).toNat : Int)) := by
  rw [cell_of h]
  simp [List.getD_eq_getElem?_getD, hi, u8v]
theorem updX_cells (out : List UInt8) (i : Nat) (x : UInt8) : ((updX out i x).map u8v).toArray = ((out.map u8v).toArray).setIfInBounds i (.int .u8 ((out.getD i 0 ^^^ x).toNat : Int)) := by
  unfold updX
  rw [List.map_set]
  simp [u8v]

noncomputable def pmul_regR : Code := ((Tryd.f87.body.bind (findRegionC 9)).getD .skip)
set_option maxRecDepth 1000000 in
set_option maxHeartbeats 8000000 in
theorem pmul_reg (w : World) (a : Go.Act) (hsz : a.tmps.size = 48) (g tb n i k : Nat) (out : List UInt8) (x y : UInt8) (hik : i + k < n) (hn : n ≤ 1000000) (hol : out.length = n) (hgt : g ≠ tb) (h6 : slot a 6 = .slice (some ⟨g, 0, none⟩) n n) (h7 : slot a 7 = .int .i64 (i : Int)) (h9 : slot a 9 = .int .i64 (k : Int)) (h5 : slot a 5 = .pointer (some ⟨tb, 0, none⟩)) (h8 : slot a 8 = .int .u8 (x.toNat : Int)) (h10 : slot a 10 = .int .u8 (y.toNat : Int)) (hA : At w g (.cells (out.map u8v).toArray 5)) (hT : At w tb (.cells tabF 171)) (Q : Exit → Go.Act → World → Prop)
    (hQ : ∀ (b : Go.Act) (p : World), b.defers = a.defers → b.tmps.size = a.tmps.size → (∀ s, s ∉ ([32, 33, 34, 35, 36, 37, 38, 39, 40, 41, 42, 43] : List Nat) → slot b s = slot a s) → Fr [g] w p → At p g (.cells ((updX out (i + k) (gmul x y)).map u8v).toArray 5) → Q .normal b p) : Code.wp Tryd.prog pmul_regR Q a w := by
  conv => arg 2; whnf
  refine wp_region_chain (by kernel_rfl) (by kernel_rfl) [some 32, some 33, some 34, some 35, some 36, some 37, some 38, some 39, some 40, some 41, some 42, some 43, none] [9, 12] [.rd (.slice (some ⟨g, 0, none⟩) n n) 2, .rd (.int .i64 (i : Int)) 2, .rd (.int .i64 (k : Int)) 2, .rd (.int .i64 ((i + k : Nat) : Int)) 2, .rd (.pointer (some ⟨g, i + k, none⟩)) 2, .rd (.int .u8 ((out.getD (i + k) 0).toNat : Int)) 1, .rd (.pointer (some ⟨tb, 0, none⟩)) 2, .rd (.int .u8 (x.toNat : Int)) 2, .rd (.int .u8 (y.toNat : Int)) 2, .st 0, .rd (.int .u8 ((out.getD (i + k) 0 ^^^ gmul x y).toNat : Int)) 2, .rd (.pointer (some ⟨g, i + k, none⟩)) 2, .st 1] (fun j => if j = 0 then (.int .u8 ((gmul x y).toNat : Int)) else undef) (fun s p => Fr [g] w p ∧ At p g (.cells (if s ≤ 1 then (out.map u8v).toArray else ((updX out (i + k) (gmul x y)).map u8v).toArray) 5) ∧ At p tb (.cells tabF 171)) (by kernel_rfl) (by rfl) (by rw [hsz]; rfl) (by kernel_rfl) (by kernel_rfl) (by decide) ?_ ⟨?_, ?_, ?_, ?_, ?_, ?_, ?_, ?_, ?_, ?_, ?_, ?_, ?_, trivial⟩ ?_
  · intro w1 hw1
    exact ⟨hw1.weak, by rw [if_pos (by decide)]; exact hA.keep0 hw1, hT.keep0 hw1⟩
  · refine ⟨⟨32, rfl⟩, .inl rfl, fun b p s hs hS h => ?_⟩
    have e0 : b.eval (.tmp 6) = .slice (some ⟨g, 0, none⟩) n n := (h.old 6 (by decide)).trans h6
    have ec : ∀ v, b.eval (.const v) = v := fun _ => rfl
    obtain ⟨ρ, hρ⟩ : ∃ ρ, b.eval = ρ := ⟨_, rfl⟩
    rw [hρ] at e0 ec ⊢
    exact ⟨_, by simp only [List.getElem?_toArray, List.getElem?_cons_succ, List.getElem?_cons_zero]; rfl, rfl, by unfold execOp; simp [go_sem, e0, ec]⟩
  · refine ⟨⟨33, rfl⟩, .inl rfl, fun b p s hs hS h => ?_⟩
    have e0 : b.eval (.tmp 7) = .int .i64 (i : Int) := (h.old 7 (by decide)).trans h7
    have ec : ∀ v, b.eval (.const v) = v := fun _ => rfl
    obtain ⟨ρ, hρ⟩ : ∃ ρ, b.eval = ρ := ⟨_, rfl⟩
    rw [hρ] at e0 ec ⊢
    exact ⟨_, by simp only [List.getElem?_toArray, List.getElem?_cons_succ, List.getElem?_cons_zero]; rfl, rfl, by unfold execOp; simp [go_sem, e0, ec]⟩
  · refine ⟨⟨34, rfl⟩, .inl rfl, fun b p s hs hS h => ?_⟩
    have e0 : b.eval (.tmp 9) = .int .i64 (k : Int) := (h.old 9 (by decide)).trans h9
    have ec : ∀ v, b.eval (.const v) = v := fun _ => rfl
    obtain ⟨ρ, hρ⟩ : ∃ ρ, b.eval = ρ := ⟨_, rfl⟩
    rw [hρ] at e0 ec ⊢
    exact ⟨_, by simp only [List.getElem?_toArray, List.getElem?_cons_succ, List.getElem?_cons_zero]; rfl, rfl, by unfold execOp; simp [go_sem, e0, ec]⟩
  · refine ⟨⟨35, rfl⟩, .inl rfl, fun b p s hs hS h => ?_⟩
    have e0 := (show b.eval (.tmp 33) = .int .i64 (i : Int) from h.rd 1 _ _ 33 (by kernel_rfl) rfl rfl)
    have e1 := (show b.eval (.tmp 34) = .int .i64 (k : Int) from h.rd 2 _ _ 34 (by kernel_rfl) rfl rfl)
    have ec : ∀ v, b.eval (.const v) = v := fun _ => rfl
    obtain ⟨ρ, hρ⟩ : ∃ ρ, b.eval = ρ := ⟨_, rfl⟩
    rw [hρ] at e0 e1 ec ⊢
    exact ⟨_, by simp only [List.getElem?_toArray, List.getElem?_cons_succ, List.getElem?_cons_zero]; rfl, rfl, by unfold execOp; simp [go_sem, e0, e1, ec, show IntKind.i64.wrap ((i : Int) + k) = (i : Int) + k by rw [IntKind.wrap_i64]; omega]⟩
  · refine ⟨⟨36, rfl⟩, .inl rfl, fun b p s hs hS h => ?_⟩
    have e0 := (show b.eval (.tmp 32) = .slice (some ⟨g, 0, none⟩) n n from h.rd 0 _ _ 32 (by kernel_rfl) rfl rfl)
    have e1 := (show b.eval (.tmp 35) = .int .i64 ((i + k : Nat) : Int) from h.rd 3 _ _ 35 (by kernel_rfl) rfl rfl)
    have ec : ∀ v, b.eval (.const v) = v := fun _ => rfl
    obtain ⟨ρ, hρ⟩ : ∃ ρ, b.eval = ρ := ⟨_, rfl⟩
    rw [hρ] at e0 e1 ec ⊢
    exact ⟨_, by simp only [List.getElem?_toArray, List.getElem?_cons_succ, List.getElem?_cons_zero]; rfl, rfl, by unfold execOp; simp [go_sem, e0, e1, ec, show 0 ≤ (i : Int) + k ∧ (i : Int) + k < n by omega, show ((i : Int) + k).toNat = i + k by omega]⟩
  · refine ⟨⟨37, rfl⟩, .inr ⟨12, rfl, by kernel_rfl⟩, fun b p s hs hS h => ?_⟩
    have e0 := (show b.eval (.tmp 36) = .pointer (some ⟨g, i + k, none⟩) from h.rd 4 _ _ 36 (by kernel_rfl) rfl rfl)
    have c0 := (show p.cell? ⟨g, i + k, none⟩ = some (.int .u8 ((out.getD (i + k) 0).toNat : Int)) from by have hA := hS.2.1; rw [if_pos hs] at hA; exact byte_cell hA (by omega))
    have ec : ∀ v, b.eval (.const v) = v := fun _ => rfl
    obtain ⟨ρ, hρ⟩ : ∃ ρ, b.eval = ρ := ⟨_, rfl⟩
    rw [hρ] at e0 ec ⊢
    exact ⟨_, by simp only [List.getElem?_toArray, List.getElem?_cons_succ, List.getElem?_cons_zero]; rfl, rfl, by unfold execOp; simp [go_sem, e0, ec, c0]⟩
  · refine ⟨⟨38, rfl⟩, .inl rfl, fun b p s hs hS h => ?_⟩
    have e0 : b.eval (.tmp 5) = .pointer (some ⟨tb, 0, none⟩) := (h.old 5 (by decide)).trans h5
    have ec : ∀ v, b.eval (.const v) = v := fun _ => rfl
    obtain ⟨ρ, hρ⟩ : ∃ ρ, b.eval = ρ := ⟨_, rfl⟩
    rw [hρ] at e0 ec ⊢
    exact ⟨_, by simp only [List.getElem?_toArray, List.getElem?_cons_succ, List.getElem?_cons_zero]; rfl, rfl, by unfold execOp; simp [go_sem, e0, ec]⟩
  · refine ⟨⟨39, rfl⟩, .inl rfl, fun b p s hs hS h => ?_⟩
    have e0 : b.eval (.tmp 8) = .int .u8 (x.toNat : Int) := (h.old 8 (by decide)).trans h8
    have ec : ∀ v, b.eval (.const v) = v := fun _ => rfl
    obtain ⟨ρ, hρ⟩ : ∃ ρ, b.eval = ρ := ⟨_, rfl⟩
    rw [hρ] at e0 ec ⊢
    exact ⟨_, by simp only [List.getElem?_toArray, List.getElem?_cons_succ, List.getElem?_cons_zero]; rfl, rfl, by unfold execOp; simp [go_sem, e0, ec]⟩
  · refine ⟨⟨40, rfl⟩, .inl rfl, fun b p s hs hS h => ?_⟩
    have e0 : b.eval (.tmp 10) = .int .u8 (y.toNat : Int) := (h.old 10 (by decide)).trans h10
    have ec : ∀ v, b.eval (.const v) = v := fun _ => rfl
    obtain ⟨ρ, hρ⟩ : ∃ ρ, b.eval = ρ := ⟨_, rfl⟩
    rw [hρ] at e0 ec ⊢
    exact ⟨_, by simp only [List.getElem?_toArray, List.getElem?_cons_succ, List.getElem?_cons_zero]; rfl, rfl, by unfold execOp; simp [go_sem, e0, ec]⟩
  · refine ⟨rfl, .inl rfl, fun b p hS h => ?_⟩
    have e0 := (show b.eval (.tmp 38) = .pointer (some ⟨tb, 0, none⟩) from h.rd 6 _ _ 38 (by kernel_rfl) rfl rfl)
    have e1 := (show b.eval (.tmp 39) = .int .u8 (x.toNat : Int) from h.rd 7 _ _ 39 (by kernel_rfl) rfl rfl)
    have e2 := (show b.eval (.tmp 40) = .int .u8 (y.toNat : Int) from h.rd 8 _ _ 40 (by kernel_rfl) rfl rfl)
    obtain ⟨hf, hA, hT⟩ := hS
    refine opV_mono (K := fun v p' => v = .int .u8 ((gmul x y).toNat : Int) ∧ Fr [] p p') (fun v p' hv => ⟨⟨hf.trans hv.2.weak, by rw [if_pos (by decide)] at hA ⊢; exact hA.keep0 hv.2, hT.keep0 hv.2⟩, .inr hv.1⟩) ?_
    exact opV_tmul _ (by simp only [List.getElem?_toArray, List.getElem?_cons_succ, List.getElem?_cons_zero]; rfl) rfl 38 39 40 rfl tb x y e0 e1 e2 hT
  · refine ⟨⟨42, rfl⟩, .inl rfl, fun b p s hs hS h => ?_⟩
    have e0 := (show b.eval (.tmp 37) = .int .u8 ((out.getD (i + k) 0).toNat : Int) from h.rd 5 _ _ 37 (by kernel_rfl) rfl rfl)
    have e1 := (show b.eval (.tmp 41) = .int .u8 ((gmul x y).toNat : Int) from h.st 9 _ 41 (by kernel_rfl) rfl rfl)
    have ec : ∀ v, b.eval (.const v) = v := fun _ => rfl
    obtain ⟨ρ, hρ⟩ : ∃ ρ, b.eval = ρ := ⟨_, rfl⟩
    rw [hρ] at e0 e1 ec ⊢
    exact ⟨_, by simp only [List.getElem?_toArray, List.getElem?_cons_succ, List.getElem?_cons_zero]; rfl, rfl, by unfold execOp; simp [go_sem, e0, e1, ec, u8_xor_u]⟩
  · refine ⟨⟨43, rfl⟩, .inl rfl, fun b p s hs hS h => ?_⟩
    have e0 := (show b.eval (.tmp 32) = .slice (some ⟨g, 0, none⟩) n n from h.rd 0 _ _ 32 (by kernel_rfl) rfl rfl)
    have e1 := (show b.eval (.tmp 35) = .int .i64 ((i + k : Nat) : Int) from h.rd 3 _ _ 35 (by kernel_rfl) rfl rfl)
    have ec : ∀ v, b.eval (.const v) = v := fun _ => rfl
    obtain ⟨ρ, hρ⟩ : ∃ ρ, b.eval = ρ := ⟨_, rfl⟩
    rw [hρ] at e0 e1 ec ⊢
    exact ⟨_, by simp only [List.getElem?_toArray, List.getElem?_cons_succ, List.getElem?_cons_zero]; rfl, rfl, by unfold execOp; simp [go_sem, e0, e1, ec, show 0 ≤ (i : Int) + k ∧ (i : Int) + k < n by omega, show ((i : Int) + k).toNat = i + k by omega]⟩
  · refine ⟨rfl, .inr ⟨9, rfl, by kernel_rfl⟩, fun b p hS h => ?_⟩
    have e0 := (show b.eval (.tmp 43) = .pointer (some ⟨g, i + k, none⟩) from h.rd 11 _ _ 43 (by kernel_rfl) rfl rfl)
    have e1 := (show b.eval (.tmp 42) = .int .u8 ((out.getD (i + k) 0 ^^^ gmul x y).toNat : Int) from h.rd 10 _ _ 42 (by kernel_rfl) rfl rfl)
    obtain ⟨hf, hA, hT⟩ := hS
    rw [if_pos (by decide)] at hA
    refine opV_mono (K := fun _ p' => Fr [g] w p' ∧ At p' g (.cells ((updX out (i + k) (gmul x y)).map u8v).toArray 5) ∧ At p' tb (.cells tabF 171)) (fun v p' hv => ⟨by show Fr [g] w p' ∧ At p' g (.cells (if 1 + 1 ≤ 1 then (out.map u8v).toArray else ((updX out (i + k) (gmul x y)).map u8v).toArray) 5) ∧ At p' tb (.cells tabF 171); rw [if_neg (by decide)]; exact hv, .inl rfl⟩) ?_
    refine opV_of_wpl (K := fun _ p' => Fr [g] w p' ∧ At p' g (.cells ((updX out (i + k) (gmul x y)).map u8v).toArray 5) ∧ At p' tb (.cells tabF 171)) _ (by simp only [List.getElem?_toArray, List.getElem?_cons_succ, List.getElem?_cons_zero]; rfl) ?_
    refine wpl_store_one (.tmp 43) (.tmp 42) rfl rfl (.int .u8 ((out.getD (i + k) 0 ^^^ gmul x y).toNat : Int)) e0 e1 hA (by simp; omega) (by kernel_rfl) rfl ?_
    intro p1 f1 a1 _
    exact ⟨rfl, rfl, hf.trans f1, by rw [updX_cells]; exact a1, hT.keep f1 (by simpa using hgt.symm)⟩
  · intro b p h1 h2 h3 h4 h5
    exact hQ b p h1 h2 (fun s hs => h3 s (fun hm => hs (by simpa using hm))) h4.1 (by have := h4.2.1; rwa [if_neg (by decide)] at this)
end Go.Proofs.YtmohiblgfmdkjaaDoor
