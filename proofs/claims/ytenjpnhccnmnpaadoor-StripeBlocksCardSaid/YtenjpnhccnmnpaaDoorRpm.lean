/-
  The document's layer 3: drawn regions of Generator and Parity. (printed by genrpm.py)
-/
import Derived.Test.YtenjpnhccnmnpaaDoorPm
import Derived.Test.YtenjpnhccnmnpaaDoorRmu
namespace Go.Proofs.YtenjpnhccnmnpaaDoor
open Go.RowKit Go.Bl
set_option linter.unusedVariables false

theorem opV_rmul {ops : Array Oper} {i : Nat} {b : Go.Act} {p : World} (o : Oper) (ho : ops[i]? = some o) (hg : o.guard = none) (k1 k2 : Nat) (hop : o.op = .call { callee := .value (.func 30), args := #[.tmp k1, .tmp k2], argTypes := #[5, 5] })
    (x y : UInt8) (h1 : b.eval (.tmp k1) = .int .u8 (x.toNat : Int)) (h2 : b.eval (.tmp k2) = .int .u8 (y.toNat : Int)) :
    opV Tryd.prog ops i b p fun v p' => v = .int .u8 ((gmul x y).toNat : Int) ∧ Fr [] p p' := by
  have hf : b.eval (.func 30) = .func (.func 30) #[] #[] := rfl
  unfold opV
  simp only [ho, Region.wanted, hg, if_true]
  obtain ⟨ρ, hρ⟩ : ∃ ρ, b.eval = ρ := ⟨_, rfl⟩
  rw [hρ] at h1 h2 hf ⊢
  have hr : (execOp ρ o).run Tryd.prog p = .ok (.enter 30 #[u8v x, u8v y]) p := by
    unfold execOp
    simp [hop, resolve, invoke, go_sem, h1, h2, hf, u8v]
  rw [hr]
  refine (rmul_any p x y).mono ?_
  rintro e p' ⟨rfl, hf⟩
  exact ⟨rfl, hf⟩
/-- a row of one's own, in its block -/
theorem own_blk {w : World} {base g n cp : Nat} {xs : List UInt8} (h : OwnB 5 base w (.slice (some ⟨g, 0, none⟩) n cp) xs) :
    ∃ cur, At w g (.cells cur 5) ∧ xs.length ≤ cur.size ∧ (∀ i, i < xs.length → cur[i]? = some (.int .u8 ((xs.getD i 0).toNat : Int))) ∧
      ∀ (w' : World) (i : Nat) (c : UInt8), At w' g (.cells (cur.setIfInBounds i (u8v c)) 5) → OwnB 5 base w' (.slice (some ⟨g, 0, none⟩) n cp) (xs.set i c) := by
  obtain ⟨h1, h2⟩ := h
  rcases h2 with ⟨h2, -⟩ | ⟨g', cap', cur, he, hg, hh, hn, hm, hs, ht⟩
  · cases h2
  · cases he
    rw [Nat.mul_one] at ht hs
    refine ⟨cur, hh, by omega, fun i hi => ?_, fun w' i c hA => ⟨by simp, .inr ⟨g, cp, cur.setIfInBounds i (u8v c), by rw [List.length_set], hg, hA, by rw [List.length_set]; exact hn, hm, by simpa using hs, ?_⟩⟩⟩
    · have e : (cur.toList.take xs.length)[i]? = (xs.map u8v)[i]? := by rw [ht]
      rw [List.getElem?_take, if_pos hi, Array.getElem?_toList] at e
      rw [e]
      simp [List.getD_eq_getElem?_getD, hi, u8v]
    · rw [Array.toList_setIfInBounds, List.length_set, Nat.mul_one, List.take_set, ht, List.map_set]
theorem cell_keep {w w' : World} {S : List Nat} {b i : Nat} {v : Value} (h : Fr S w w') (hb : b ∉ S) (hc : w.cell? ⟨b, i, none⟩ = some v) : w'.cell? ⟨b, i, none⟩ = some v := by
  unfold World.cell? at hc ⊢
  rcases Nat.lt_or_ge b w.heap.size with hl | hl
  · rw [h.block b hl hb]; exact hc
  · rw [Array.getElem?_eq_none hl] at hc; simp at hc

noncomputable def rgen_regR : Code := ((Tryd.f29.body.bind (findRegionC 10)).getD .skip)
set_option maxRecDepth 1000000 in
set_option maxHeartbeats 8000000 in
theorem rgen_reg (w : World) (a : Go.Act) (hsz : a.tmps.size = 50) (g n i : Nat) (out : List UInt8) (x y : UInt8) (hik : i < n) (hn : n ≤ 1000000) (hol : out.length = n) (h4 : slot a 4 = .slice (some ⟨g, 0, none⟩) n n) (h5 : slot a 5 = .int .i64 (i : Int)) (h6 : slot a 6 = .int .u8 (x.toNat : Int)) (h2 : slot a 2 = .int .u8 (y.toNat : Int)) (hA : At w g (.cells (out.map u8v).toArray 5)) (Q : Exit → Go.Act → World → Prop)
    (hQ : ∀ (b : Go.Act) (p : World), b.defers = a.defers → b.tmps.size = a.tmps.size → (∀ s, s ∉ ([23, 24, 25, 26, 27, 28, 29, 30, 31, 32, 33] : List Nat) → slot b s = slot a s) → Fr [g] w p → At p g (.cells ((updX out i (gmul x y)).map u8v).toArray 5) → Q .normal b p) : Code.wp Tryd.prog rgen_regR Q a w := by
  conv => arg 2; whnf
  refine wp_region_chain (by kernel_rfl) (by kernel_rfl) [some 23, some 24, some 25, some 26, some 27, some 28, some 29, some 30, some 31, some 32, some 33, none] [8, 11] [.rd (.slice (some ⟨g, 0, none⟩) n n) 2, .rd (.int .i64 (i : Int)) 2, .rd (.slice (some ⟨g, 0, none⟩) n n) 2, .rd (.int .i64 (i : Int)) 2, .rd (.pointer (some ⟨g, i, none⟩)) 2, .rd (.int .u8 ((out.getD i 0).toNat : Int)) 1, .rd (.int .u8 (x.toNat : Int)) 2, .rd (.int .u8 (y.toNat : Int)) 2, .st 0, .rd (.int .u8 ((out.getD i 0 ^^^ gmul x y).toNat : Int)) 2, .rd (.pointer (some ⟨g, i, none⟩)) 2, .st 1] (fun j => if j = 0 then (.int .u8 ((gmul x y).toNat : Int)) else undef) (fun s p => Fr [g] w p ∧ At p g (.cells (if s ≤ 1 then (out.map u8v).toArray else ((updX out i (gmul x y)).map u8v).toArray) 5)) (by kernel_rfl) (by rfl) (by rw [hsz]; rfl) (by kernel_rfl) (by kernel_rfl) (by decide) ?_ ⟨?_, ?_, ?_, ?_, ?_, ?_, ?_, ?_, ?_, ?_, ?_, ?_, trivial⟩ ?_
  · intro w1 hw1
    exact ⟨hw1.weak, by rw [if_pos (by decide)]; exact hA.keep0 hw1⟩
  · refine ⟨⟨23, rfl⟩, .inl rfl, fun b p s hs hS h => ?_⟩
    have e0 : b.eval (.tmp 4) = .slice (some ⟨g, 0, none⟩) n n := (h.old 4 (by decide)).trans h4
    have ec : ∀ v, b.eval (.const v) = v := fun _ => rfl
    obtain ⟨ρ, hρ⟩ : ∃ ρ, b.eval = ρ := ⟨_, rfl⟩
    rw [hρ] at e0 ec ⊢
    exact ⟨_, by simp only [List.getElem?_toArray, List.getElem?_cons_succ, List.getElem?_cons_zero]; rfl, rfl, by unfold execOp; simp [go_sem, e0, ec]⟩
  · refine ⟨⟨24, rfl⟩, .inl rfl, fun b p s hs hS h => ?_⟩
    have e0 : b.eval (.tmp 5) = .int .i64 (i : Int) := (h.old 5 (by decide)).trans h5
    have ec : ∀ v, b.eval (.const v) = v := fun _ => rfl
    obtain ⟨ρ, hρ⟩ : ∃ ρ, b.eval = ρ := ⟨_, rfl⟩
    rw [hρ] at e0 ec ⊢
    exact ⟨_, by simp only [List.getElem?_toArray, List.getElem?_cons_succ, List.getElem?_cons_zero]; rfl, rfl, by unfold execOp; simp [go_sem, e0, ec]⟩
  · refine ⟨⟨25, rfl⟩, .inl rfl, fun b p s hs hS h => ?_⟩
    have e0 : b.eval (.tmp 4) = .slice (some ⟨g, 0, none⟩) n n := (h.old 4 (by decide)).trans h4
    have ec : ∀ v, b.eval (.const v) = v := fun _ => rfl
    obtain ⟨ρ, hρ⟩ : ∃ ρ, b.eval = ρ := ⟨_, rfl⟩
    rw [hρ] at e0 ec ⊢
    exact ⟨_, by simp only [List.getElem?_toArray, List.getElem?_cons_succ, List.getElem?_cons_zero]; rfl, rfl, by unfold execOp; simp [go_sem, e0, ec]⟩
  · refine ⟨⟨26, rfl⟩, .inl rfl, fun b p s hs hS h => ?_⟩
    have e0 : b.eval (.tmp 5) = .int .i64 (i : Int) := (h.old 5 (by decide)).trans h5
    have ec : ∀ v, b.eval (.const v) = v := fun _ => rfl
    obtain ⟨ρ, hρ⟩ : ∃ ρ, b.eval = ρ := ⟨_, rfl⟩
    rw [hρ] at e0 ec ⊢
    exact ⟨_, by simp only [List.getElem?_toArray, List.getElem?_cons_succ, List.getElem?_cons_zero]; rfl, rfl, by unfold execOp; simp [go_sem, e0, ec]⟩
  · refine ⟨⟨27, rfl⟩, .inl rfl, fun b p s hs hS h => ?_⟩
    have e0 := (show b.eval (.tmp 25) = .slice (some ⟨g, 0, none⟩) n n from h.rd 2 _ _ 25 (by kernel_rfl) rfl rfl)
    have e1 := (show b.eval (.tmp 26) = .int .i64 (i : Int) from h.rd 3 _ _ 26 (by kernel_rfl) rfl rfl)
    have ec : ∀ v, b.eval (.const v) = v := fun _ => rfl
    obtain ⟨ρ, hρ⟩ : ∃ ρ, b.eval = ρ := ⟨_, rfl⟩
    rw [hρ] at e0 e1 ec ⊢
    exact ⟨_, by simp only [List.getElem?_toArray, List.getElem?_cons_succ, List.getElem?_cons_zero]; rfl, rfl, by unfold execOp; simp [go_sem, e0, e1, ec, hik, show (i : Int) < n by omega]⟩
  · refine ⟨⟨28, rfl⟩, .inr ⟨11, rfl, by kernel_rfl⟩, fun b p s hs hS h => ?_⟩
    have e0 := (show b.eval (.tmp 27) = .pointer (some ⟨g, i, none⟩) from h.rd 4 _ _ 27 (by kernel_rfl) rfl rfl)
    have c0 := (show p.cell? ⟨g, i, none⟩ = some (.int .u8 ((out.getD i 0).toNat : Int)) from by have hA := hS.2; rw [if_pos hs] at hA; exact byte_cell hA (by omega))
    have ec : ∀ v, b.eval (.const v) = v := fun _ => rfl
    obtain ⟨ρ, hρ⟩ : ∃ ρ, b.eval = ρ := ⟨_, rfl⟩
    rw [hρ] at e0 ec ⊢
    exact ⟨_, by simp only [List.getElem?_toArray, List.getElem?_cons_succ, List.getElem?_cons_zero]; rfl, rfl, by unfold execOp; simp [go_sem, e0, ec, c0]⟩
  · refine ⟨⟨29, rfl⟩, .inl rfl, fun b p s hs hS h => ?_⟩
    have e0 : b.eval (.tmp 6) = .int .u8 (x.toNat : Int) := (h.old 6 (by decide)).trans h6
    have ec : ∀ v, b.eval (.const v) = v := fun _ => rfl
    obtain ⟨ρ, hρ⟩ : ∃ ρ, b.eval = ρ := ⟨_, rfl⟩
    rw [hρ] at e0 ec ⊢
    exact ⟨_, by simp only [List.getElem?_toArray, List.getElem?_cons_succ, List.getElem?_cons_zero]; rfl, rfl, by unfold execOp; simp [go_sem, e0, ec]⟩
  · refine ⟨⟨30, rfl⟩, .inl rfl, fun b p s hs hS h => ?_⟩
    have e0 : b.eval (.tmp 2) = .int .u8 (y.toNat : Int) := (h.old 2 (by decide)).trans h2
    have ec : ∀ v, b.eval (.const v) = v := fun _ => rfl
    obtain ⟨ρ, hρ⟩ : ∃ ρ, b.eval = ρ := ⟨_, rfl⟩
    rw [hρ] at e0 ec ⊢
    exact ⟨_, by simp only [List.getElem?_toArray, List.getElem?_cons_succ, List.getElem?_cons_zero]; rfl, rfl, by unfold execOp; simp [go_sem, e0, ec]⟩
  · refine ⟨rfl, .inl rfl, fun b p hS h => ?_⟩
    have e0 := (show b.eval (.tmp 29) = .int .u8 (x.toNat : Int) from h.rd 6 _ _ 29 (by kernel_rfl) rfl rfl)
    have e1 := (show b.eval (.tmp 30) = .int .u8 (y.toNat : Int) from h.rd 7 _ _ 30 (by kernel_rfl) rfl rfl)
    obtain ⟨hf, hA⟩ := hS
    refine opV_mono (K := fun v p' => v = .int .u8 ((gmul x y).toNat : Int) ∧ Fr [] p p') (fun v p' hv => ⟨⟨hf.trans hv.2.weak, by rw [if_pos (by decide)] at hA ⊢; exact hA.keep0 hv.2⟩, .inr hv.1⟩) ?_
    exact opV_rmul _ (by simp only [List.getElem?_toArray, List.getElem?_cons_succ, List.getElem?_cons_zero]; rfl) rfl 29 30 rfl x y e0 e1
  · refine ⟨⟨32, rfl⟩, .inl rfl, fun b p s hs hS h => ?_⟩
    have e0 := (show b.eval (.tmp 28) = .int .u8 ((out.getD i 0).toNat : Int) from h.rd 5 _ _ 28 (by kernel_rfl) rfl rfl)
    have e1 := (show b.eval (.tmp 31) = .int .u8 ((gmul x y).toNat : Int) from h.st 8 _ 31 (by kernel_rfl) rfl rfl)
    have ec : ∀ v, b.eval (.const v) = v := fun _ => rfl
    obtain ⟨ρ, hρ⟩ : ∃ ρ, b.eval = ρ := ⟨_, rfl⟩
    rw [hρ] at e0 e1 ec ⊢
    exact ⟨_, by simp only [List.getElem?_toArray, List.getElem?_cons_succ, List.getElem?_cons_zero]; rfl, rfl, by unfold execOp; simp [go_sem, e0, e1, ec, u8_xor_u]⟩
  · refine ⟨⟨33, rfl⟩, .inl rfl, fun b p s hs hS h => ?_⟩
    have e0 := (show b.eval (.tmp 23) = .slice (some ⟨g, 0, none⟩) n n from h.rd 0 _ _ 23 (by kernel_rfl) rfl rfl)
    have e1 := (show b.eval (.tmp 24) = .int .i64 (i : Int) from h.rd 1 _ _ 24 (by kernel_rfl) rfl rfl)
    have ec : ∀ v, b.eval (.const v) = v := fun _ => rfl
    obtain ⟨ρ, hρ⟩ : ∃ ρ, b.eval = ρ := ⟨_, rfl⟩
    rw [hρ] at e0 e1 ec ⊢
    exact ⟨_, by simp only [List.getElem?_toArray, List.getElem?_cons_succ, List.getElem?_cons_zero]; rfl, rfl, by unfold execOp; simp [go_sem, e0, e1, ec, hik, show (i : Int) < n by omega]⟩
  · refine ⟨rfl, .inr ⟨8, rfl, by kernel_rfl⟩, fun b p hS h => ?_⟩
    have e0 := (show b.eval (.tmp 33) = .pointer (some ⟨g, i, none⟩) from h.rd 10 _ _ 33 (by kernel_rfl) rfl rfl)
    have e1 := (show b.eval (.tmp 32) = .int .u8 ((out.getD i 0 ^^^ gmul x y).toNat : Int) from h.rd 9 _ _ 32 (by kernel_rfl) rfl rfl)
    obtain ⟨hf, hA⟩ := hS
    rw [if_pos (by decide)] at hA
    refine opV_mono (K := fun _ p' => Fr [g] w p' ∧ At p' g (.cells ((updX out i (gmul x y)).map u8v).toArray 5)) (fun v p' hv => ⟨by show Fr [g] w p' ∧ At p' g (.cells (if 1 + 1 ≤ 1 then (out.map u8v).toArray else ((updX out i (gmul x y)).map u8v).toArray) 5); rw [if_neg (by decide)]; exact hv, .inl rfl⟩) ?_
    refine opV_of_wpl (K := fun _ p' => Fr [g] w p' ∧ At p' g (.cells ((updX out i (gmul x y)).map u8v).toArray 5)) _ (by simp only [List.getElem?_toArray, List.getElem?_cons_succ, List.getElem?_cons_zero]; rfl) ?_
    refine wpl_store_one (.tmp 33) (.tmp 32) rfl rfl (.int .u8 ((out.getD i 0 ^^^ gmul x y).toNat : Int)) e0 e1 hA (by simp; omega) (by kernel_rfl) rfl ?_
    intro p1 f1 a1 _
    exact ⟨rfl, rfl, hf.trans f1, by rw [updX_cells]; exact a1⟩
  · intro b p h1 h2 h3 h4 h5
    exact hQ b p h1 h2 (fun s hs => h3 s (fun hm => hs (by simpa using hm))) h4.1 (by have := h4.2; rwa [if_neg (by decide)] at this)

noncomputable def rpar_regR : Code := ((Tryd.f21.body.bind (findRegionC 13)).getD .skip)
set_option maxRecDepth 1000000 in
set_option maxHeartbeats 8000000 in
theorem rpar_reg (w : World) (a : Go.Act) (hsz : a.tmps.size = 61) (base g gg n cp gc i k m : Nat) (out : List UInt8) (x y : UInt8) (hik : i + k < n) (hkm : m + k = 32) (hn : n ≤ 1000000) (hol : out.length = n) (hgg : gg ≠ g) (h5 : slot a 5 = .slice (some ⟨g, 0, none⟩) n cp) (h6 : slot a 6 = .int .i64 (i : Int)) (h8 : slot a 8 = .int .i64 (k : Int)) (h7 : slot a 7 = .int .u8 (x.toNat : Int)) (h4 : slot a 4 = .slice (some ⟨gg, 0, none⟩) 33 gc) (hy : w.cell? ⟨gg, m, none⟩ = some (.int .u8 (y.toNat : Int))) (hA : OwnB 5 base w (.slice (some ⟨g, 0, none⟩) n cp) out) (Q : Exit → Go.Act → World → Prop)
    (hQ : ∀ (b : Go.Act) (p : World), b.defers = a.defers → b.tmps.size = a.tmps.size → (∀ s, s ∉ ([37, 38, 39, 40, 41, 42, 43, 44, 45, 46, 47, 48, 49, 50, 51, 52, 53, 54, 55] : List Nat) → slot b s = slot a s) → Fr [g] w p → OwnB 5 base p (.slice (some ⟨g, 0, none⟩) n cp) (updX out (i + k) (gmul x y)) → Q .normal b p) : Code.wp Tryd.prog rpar_regR Q a w := by
  conv => arg 2; whnf
  refine wp_region_chain (by kernel_rfl) (by kernel_rfl) [some 37, some 38, some 39, some 40, some 41, some 42, some 43, some 44, some 45, some 46, some 47, some 48, some 49, some 50, some 51, some 52, some 53, some 54, some 55, none] [16, 19] [.rd (.slice (some ⟨g, 0, none⟩) n cp) 2, .rd (.int .i64 (i : Int)) 2, .rd (.int .i64 (k : Int)) 2, .rd (.int .i64 ((i + k : Nat) : Int)) 2, .rd (.slice (some ⟨g, 0, none⟩) n cp) 2, .rd (.int .i64 (i : Int)) 2, .rd (.int .i64 (k : Int)) 2, .rd (.int .i64 ((i + k : Nat) : Int)) 2, .rd (.pointer (some ⟨g, i + k, none⟩)) 2, .rd (.int .u8 ((out.getD (i + k) 0).toNat : Int)) 1, .rd (.int .u8 (x.toNat : Int)) 2, .rd (.slice (some ⟨gg, 0, none⟩) 33 gc) 2, .rd (.int .i64 (k : Int)) 2, .rd (.int .i64 (m : Int)) 2, .rd (.pointer (some ⟨gg, m, none⟩)) 2, .rd (.int .u8 (y.toNat : Int)) 0, .st 0, .rd (.int .u8 ((out.getD (i + k) 0 ^^^ gmul x y).toNat : Int)) 2, .rd (.pointer (some ⟨g, i + k, none⟩)) 2, .st 1] (fun j => if j = 0 then (.int .u8 ((gmul x y).toNat : Int)) else undef) (fun s p => Fr [g] w p ∧ OwnB 5 base p (.slice (some ⟨g, 0, none⟩) n cp) (if s ≤ 1 then out else (updX out (i + k) (gmul x y)))) (by kernel_rfl) (by rfl) (by rw [hsz]; rfl) (by kernel_rfl) (by kernel_rfl) (by decide) ?_ ⟨?_, ?_, ?_, ?_, ?_, ?_, ?_, ?_, ?_, ?_, ?_, ?_, ?_, ?_, ?_, ?_, ?_, ?_, ?_, ?_, trivial⟩ ?_
  · intro w1 hw1
    exact ⟨hw1.weak, by rw [if_pos (by decide)]; exact hA.keep hw1 (by simp)⟩
  · refine ⟨⟨37, rfl⟩, .inl rfl, fun b p s hs hS h => ?_⟩
    have e0 : b.eval (.tmp 5) = .slice (some ⟨g, 0, none⟩) n cp := (h.old 5 (by decide)).trans h5
    have ec : ∀ v, b.eval (.const v) = v := fun _ => rfl
    obtain ⟨ρ, hρ⟩ : ∃ ρ, b.eval = ρ := ⟨_, rfl⟩
    rw [hρ] at e0 ec ⊢
    exact ⟨_, by simp only [List.getElem?_toArray, List.getElem?_cons_succ, List.getElem?_cons_zero]; rfl, rfl, by unfold execOp; simp [go_sem, e0, ec]⟩
  · refine ⟨⟨38, rfl⟩, .inl rfl, fun b p s hs hS h => ?_⟩
    have e0 : b.eval (.tmp 6) = .int .i64 (i : Int) := (h.old 6 (by decide)).trans h6
    have ec : ∀ v, b.eval (.const v) = v := fun _ => rfl
    obtain ⟨ρ, hρ⟩ : ∃ ρ, b.eval = ρ := ⟨_, rfl⟩
    rw [hρ] at e0 ec ⊢
    exact ⟨_, by simp only [List.getElem?_toArray, List.getElem?_cons_succ, List.getElem?_cons_zero]; rfl, rfl, by unfold execOp; simp [go_sem, e0, ec]⟩
  · refine ⟨⟨39, rfl⟩, .inl rfl, fun b p s hs hS h => ?_⟩
    have e0 : b.eval (.tmp 8) = .int .i64 (k : Int) := (h.old 8 (by decide)).trans h8
    have ec : ∀ v, b.eval (.const v) = v := fun _ => rfl
    obtain ⟨ρ, hρ⟩ : ∃ ρ, b.eval = ρ := ⟨_, rfl⟩
    rw [hρ] at e0 ec ⊢
    exact ⟨_, by simp only [List.getElem?_toArray, List.getElem?_cons_succ, List.getElem?_cons_zero]; rfl, rfl, by unfold execOp; simp [go_sem, e0, ec]⟩
  · refine ⟨⟨40, rfl⟩, .inl rfl, fun b p s hs hS h => ?_⟩
    have e0 := (show b.eval (.tmp 38) = .int .i64 (i : Int) from h.rd 1 _ _ 38 (by kernel_rfl) rfl rfl)
    have e1 := (show b.eval (.tmp 39) = .int .i64 (k : Int) from h.rd 2 _ _ 39 (by kernel_rfl) rfl rfl)
    have ec : ∀ v, b.eval (.const v) = v := fun _ => rfl
    obtain ⟨ρ, hρ⟩ : ∃ ρ, b.eval = ρ := ⟨_, rfl⟩
    rw [hρ] at e0 e1 ec ⊢
    exact ⟨_, by simp only [List.getElem?_toArray, List.getElem?_cons_succ, List.getElem?_cons_zero]; rfl, rfl, by unfold execOp; simp [go_sem, e0, e1, ec, show IntKind.i64.wrap ((i : Int) + k) = (i : Int) + k by rw [IntKind.wrap_i64]; omega]⟩
  · refine ⟨⟨41, rfl⟩, .inl rfl, fun b p s hs hS h => ?_⟩
    have e0 : b.eval (.tmp 5) = .slice (some ⟨g, 0, none⟩) n cp := (h.old 5 (by decide)).trans h5
    have ec : ∀ v, b.eval (.const v) = v := fun _ => rfl
    obtain ⟨ρ, hρ⟩ : ∃ ρ, b.eval = ρ := ⟨_, rfl⟩
    rw [hρ] at e0 ec ⊢
    exact ⟨_, by simp only [List.getElem?_toArray, List.getElem?_cons_succ, List.getElem?_cons_zero]; rfl, rfl, by unfold execOp; simp [go_sem, e0, ec]⟩
  · refine ⟨⟨42, rfl⟩, .inl rfl, fun b p s hs hS h => ?_⟩
    have e0 : b.eval (.tmp 6) = .int .i64 (i : Int) := (h.old 6 (by decide)).trans h6
    have ec : ∀ v, b.eval (.const v) = v := fun _ => rfl
    obtain ⟨ρ, hρ⟩ : ∃ ρ, b.eval = ρ := ⟨_, rfl⟩
    rw [hρ] at e0 ec ⊢
    exact ⟨_, by simp only [List.getElem?_toArray, List.getElem?_cons_succ, List.getElem?_cons_zero]; rfl, rfl, by unfold execOp; simp [go_sem, e0, ec]⟩
  · refine ⟨⟨43, rfl⟩, .inl rfl, fun b p s hs hS h => ?_⟩
    have e0 : b.eval (.tmp 8) = .int .i64 (k : Int) := (h.old 8 (by decide)).trans h8
    have ec : ∀ v, b.eval (.const v) = v := fun _ => rfl
    obtain ⟨ρ, hρ⟩ : ∃ ρ, b.eval = ρ := ⟨_, rfl⟩
    rw [hρ] at e0 ec ⊢
    exact ⟨_, by simp only [List.getElem?_toArray, List.getElem?_cons_succ, List.getElem?_cons_zero]; rfl, rfl, by unfold execOp; simp [go_sem, e0, ec]⟩
  · refine ⟨⟨44, rfl⟩, .inl rfl, fun b p s hs hS h => ?_⟩
    have e0 := (show b.eval (.tmp 42) = .int .i64 (i : Int) from h.rd 5 _ _ 42 (by kernel_rfl) rfl rfl)
    have e1 := (show b.eval (.tmp 43) = .int .i64 (k : Int) from h.rd 6 _ _ 43 (by kernel_rfl) rfl rfl)
    have ec : ∀ v, b.eval (.const v) = v := fun _ => rfl
    obtain ⟨ρ, hρ⟩ : ∃ ρ, b.eval = ρ := ⟨_, rfl⟩
    rw [hρ] at e0 e1 ec ⊢
    exact ⟨_, by simp only [List.getElem?_toArray, List.getElem?_cons_succ, List.getElem?_cons_zero]; rfl, rfl, by unfold execOp; simp [go_sem, e0, e1, ec, show IntKind.i64.wrap ((i : Int) + k) = (i : Int) + k by rw [IntKind.wrap_i64]; omega]⟩
  · refine ⟨⟨45, rfl⟩, .inl rfl, fun b p s hs hS h => ?_⟩
    have e0 := (show b.eval (.tmp 41) = .slice (some ⟨g, 0, none⟩) n cp from h.rd 4 _ _ 41 (by kernel_rfl) rfl rfl)
    have e1 := (show b.eval (.tmp 44) = .int .i64 ((i + k : Nat) : Int) from h.rd 7 _ _ 44 (by kernel_rfl) rfl rfl)
    have ec : ∀ v, b.eval (.const v) = v := fun _ => rfl
    obtain ⟨ρ, hρ⟩ : ∃ ρ, b.eval = ρ := ⟨_, rfl⟩
    rw [hρ] at e0 e1 ec ⊢
    exact ⟨_, by simp only [List.getElem?_toArray, List.getElem?_cons_succ, List.getElem?_cons_zero]; rfl, rfl, by unfold execOp; simp [go_sem, e0, e1, ec, show 0 ≤ (i : Int) + k ∧ (i : Int) + k < n by omega, show ((i : Int) + k).toNat = i + k by omega]⟩
  · refine ⟨⟨46, rfl⟩, .inr ⟨19, rfl, by kernel_rfl⟩, fun b p s hs hS h => ?_⟩
    have e0 := (show b.eval (.tmp 45) = .pointer (some ⟨g, i + k, none⟩) from h.rd 8 _ _ 45 (by kernel_rfl) rfl rfl)
    have c0 := (show p.cell? ⟨g, i + k, none⟩ = some (.int .u8 ((out.getD (i + k) 0).toNat : Int)) from by have hA := hS.2; rw [if_pos hs] at hA; obtain ⟨cur, k1, -, k3, -⟩ := own_blk hA; rw [cell_of k1]; exact k3 _ (by omega))
    have ec : ∀ v, b.eval (.const v) = v := fun _ => rfl
    obtain ⟨ρ, hρ⟩ : ∃ ρ, b.eval = ρ := ⟨_, rfl⟩
    rw [hρ] at e0 ec ⊢
    exact ⟨_, by simp only [List.getElem?_toArray, List.getElem?_cons_succ, List.getElem?_cons_zero]; rfl, rfl, by unfold execOp; simp [go_sem, e0, ec, c0]⟩
  · refine ⟨⟨47, rfl⟩, .inl rfl, fun b p s hs hS h => ?_⟩
    have e0 : b.eval (.tmp 7) = .int .u8 (x.toNat : Int) := (h.old 7 (by decide)).trans h7
    have ec : ∀ v, b.eval (.const v) = v := fun _ => rfl
    obtain ⟨ρ, hρ⟩ : ∃ ρ, b.eval = ρ := ⟨_, rfl⟩
    rw [hρ] at e0 ec ⊢
    exact ⟨_, by simp only [List.getElem?_toArray, List.getElem?_cons_succ, List.getElem?_cons_zero]; rfl, rfl, by unfold execOp; simp [go_sem, e0, ec]⟩
  · refine ⟨⟨48, rfl⟩, .inl rfl, fun b p s hs hS h => ?_⟩
    have e0 : b.eval (.tmp 4) = .slice (some ⟨gg, 0, none⟩) 33 gc := (h.old 4 (by decide)).trans h4
    have ec : ∀ v, b.eval (.const v) = v := fun _ => rfl
    obtain ⟨ρ, hρ⟩ : ∃ ρ, b.eval = ρ := ⟨_, rfl⟩
    rw [hρ] at e0 ec ⊢
    exact ⟨_, by simp only [List.getElem?_toArray, List.getElem?_cons_succ, List.getElem?_cons_zero]; rfl, rfl, by unfold execOp; simp [go_sem, e0, ec]⟩
  · refine ⟨⟨49, rfl⟩, .inl rfl, fun b p s hs hS h => ?_⟩
    have e0 : b.eval (.tmp 8) = .int .i64 (k : Int) := (h.old 8 (by decide)).trans h8
    have ec : ∀ v, b.eval (.const v) = v := fun _ => rfl
    obtain ⟨ρ, hρ⟩ : ∃ ρ, b.eval = ρ := ⟨_, rfl⟩
    rw [hρ] at e0 ec ⊢
    exact ⟨_, by simp only [List.getElem?_toArray, List.getElem?_cons_succ, List.getElem?_cons_zero]; rfl, rfl, by unfold execOp; simp [go_sem, e0, ec]⟩
  · refine ⟨⟨50, rfl⟩, .inl rfl, fun b p s hs hS h => ?_⟩
    have e0 := (show b.eval (.tmp 49) = .int .i64 (k : Int) from h.rd 12 _ _ 49 (by kernel_rfl) rfl rfl)
    have ec : ∀ v, b.eval (.const v) = v := fun _ => rfl
    obtain ⟨ρ, hρ⟩ : ∃ ρ, b.eval = ρ := ⟨_, rfl⟩
    rw [hρ] at e0 ec ⊢
    exact ⟨_, by simp only [List.getElem?_toArray, List.getElem?_cons_succ, List.getElem?_cons_zero]; rfl, rfl, by unfold execOp; simp [go_sem, e0, ec, show IntKind.i64.wrap (32 - (k : Int)) = (m : Int) by rw [IntKind.wrap_i64]; omega]⟩
  · refine ⟨⟨51, rfl⟩, .inl rfl, fun b p s hs hS h => ?_⟩
    have e0 := (show b.eval (.tmp 48) = .slice (some ⟨gg, 0, none⟩) 33 gc from h.rd 11 _ _ 48 (by kernel_rfl) rfl rfl)
    have e1 := (show b.eval (.tmp 50) = .int .i64 (m : Int) from h.rd 13 _ _ 50 (by kernel_rfl) rfl rfl)
    have ec : ∀ v, b.eval (.const v) = v := fun _ => rfl
    obtain ⟨ρ, hρ⟩ : ∃ ρ, b.eval = ρ := ⟨_, rfl⟩
    rw [hρ] at e0 e1 ec ⊢
    exact ⟨_, by simp only [List.getElem?_toArray, List.getElem?_cons_succ, List.getElem?_cons_zero]; rfl, rfl, by unfold execOp; simp [go_sem, e0, e1, ec, show (m : Int) < 33 by omega, show m < 33 by omega]⟩
  · refine ⟨⟨52, rfl⟩, .inr ⟨16, rfl, by kernel_rfl⟩, fun b p s hs hS h => ?_⟩
    have e0 := (show b.eval (.tmp 51) = .pointer (some ⟨gg, m, none⟩) from h.rd 14 _ _ 51 (by kernel_rfl) rfl rfl)
    have c0 := (show p.cell? ⟨gg, m, none⟩ = some (.int .u8 (y.toNat : Int)) from cell_keep hS.1 (by simpa using hgg) hy)
    have ec : ∀ v, b.eval (.const v) = v := fun _ => rfl
    obtain ⟨ρ, hρ⟩ : ∃ ρ, b.eval = ρ := ⟨_, rfl⟩
    rw [hρ] at e0 ec ⊢
    exact ⟨_, by simp only [List.getElem?_toArray, List.getElem?_cons_succ, List.getElem?_cons_zero]; rfl, rfl, by unfold execOp; simp [go_sem, e0, ec, c0]⟩
  · refine ⟨rfl, .inl rfl, fun b p hS h => ?_⟩
    have e0 := (show b.eval (.tmp 47) = .int .u8 (x.toNat : Int) from h.rd 10 _ _ 47 (by kernel_rfl) rfl rfl)
    have e1 := (show b.eval (.tmp 52) = .int .u8 (y.toNat : Int) from h.rd 15 _ _ 52 (by kernel_rfl) rfl rfl)
    obtain ⟨hf, hA⟩ := hS
    refine opV_mono (K := fun v p' => v = .int .u8 ((gmul x y).toNat : Int) ∧ Fr [] p p') (fun v p' hv => ⟨⟨hf.trans hv.2.weak, by rw [if_pos (by decide)] at hA ⊢; exact hA.keep hv.2 (by simp)⟩, .inr hv.1⟩) ?_
    exact opV_rmul _ (by simp only [List.getElem?_toArray, List.getElem?_cons_succ, List.getElem?_cons_zero]; rfl) rfl 47 52 rfl x y e0 e1
  · refine ⟨⟨54, rfl⟩, .inl rfl, fun b p s hs hS h => ?_⟩
    have e0 := (show b.eval (.tmp 46) = .int .u8 ((out.getD (i + k) 0).toNat : Int) from h.rd 9 _ _ 46 (by kernel_rfl) rfl rfl)
    have e1 := (show b.eval (.tmp 53) = .int .u8 ((gmul x y).toNat : Int) from h.st 16 _ 53 (by kernel_rfl) rfl rfl)
    have ec : ∀ v, b.eval (.const v) = v := fun _ => rfl
    obtain ⟨ρ, hρ⟩ : ∃ ρ, b.eval = ρ := ⟨_, rfl⟩
    rw [hρ] at e0 e1 ec ⊢
    exact ⟨_, by simp only [List.getElem?_toArray, List.getElem?_cons_succ, List.getElem?_cons_zero]; rfl, rfl, by unfold execOp; simp [go_sem, e0, e1, ec, u8_xor_u]⟩
  · refine ⟨⟨55, rfl⟩, .inl rfl, fun b p s hs hS h => ?_⟩
    have e0 := (show b.eval (.tmp 37) = .slice (some ⟨g, 0, none⟩) n cp from h.rd 0 _ _ 37 (by kernel_rfl) rfl rfl)
    have e1 := (show b.eval (.tmp 40) = .int .i64 ((i + k : Nat) : Int) from h.rd 3 _ _ 40 (by kernel_rfl) rfl rfl)
    have ec : ∀ v, b.eval (.const v) = v := fun _ => rfl
    obtain ⟨ρ, hρ⟩ : ∃ ρ, b.eval = ρ := ⟨_, rfl⟩
    rw [hρ] at e0 e1 ec ⊢
    exact ⟨_, by simp only [List.getElem?_toArray, List.getElem?_cons_succ, List.getElem?_cons_zero]; rfl, rfl, by unfold execOp; simp [go_sem, e0, e1, ec, show 0 ≤ (i : Int) + k ∧ (i : Int) + k < n by omega, show ((i : Int) + k).toNat = i + k by omega]⟩
  · refine ⟨rfl, .inr ⟨16, rfl, by kernel_rfl⟩, fun b p hS h => ?_⟩
    have e0 := (show b.eval (.tmp 55) = .pointer (some ⟨g, i + k, none⟩) from h.rd 18 _ _ 55 (by kernel_rfl) rfl rfl)
    have e1 := (show b.eval (.tmp 54) = .int .u8 ((out.getD (i + k) 0 ^^^ gmul x y).toNat : Int) from h.rd 17 _ _ 54 (by kernel_rfl) rfl rfl)
    obtain ⟨hf, hA⟩ := hS
    rw [if_pos (by decide)] at hA
    obtain ⟨cur, k1, k2, -, k4⟩ := own_blk hA
    refine opV_mono (K := fun _ p' => Fr [g] w p' ∧ OwnB 5 base p' (.slice (some ⟨g, 0, none⟩) n cp) (updX out (i + k) (gmul x y))) (fun v p' hv => ⟨by show Fr [g] w p' ∧ OwnB 5 base p' (.slice (some ⟨g, 0, none⟩) n cp) (if 1 + 1 ≤ 1 then out else (updX out (i + k) (gmul x y))); rw [if_neg (by decide)]; exact hv, .inl rfl⟩) ?_
    refine opV_of_wpl (K := fun _ p' => Fr [g] w p' ∧ OwnB 5 base p' (.slice (some ⟨g, 0, none⟩) n cp) (updX out (i + k) (gmul x y))) _ (by simp only [List.getElem?_toArray, List.getElem?_cons_succ, List.getElem?_cons_zero]; rfl) ?_
    refine wpl_store_one (.tmp 55) (.tmp 54) rfl rfl (.int .u8 ((out.getD (i + k) 0 ^^^ gmul x y).toNat : Int)) e0 e1 k1 (by omega) (by kernel_rfl) rfl ?_
    intro p1 f1 a1 _
    exact ⟨rfl, rfl, hf.trans f1, k4 p1 (i + k) _ a1⟩
  · intro b p h1 h2 h3 h4 h5
    exact hQ b p h1 h2 (fun s hs => h3 s (fun hm => hs (by simpa using hm))) h4.1 (by have := h4.2; rwa [if_neg (by decide)] at this)
end Go.Proofs.YtenjpnhccnmnpaaDoor
