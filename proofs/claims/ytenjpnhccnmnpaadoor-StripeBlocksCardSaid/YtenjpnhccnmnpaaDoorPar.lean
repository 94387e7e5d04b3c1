/-
  Layer 3: code.Parity's drawn region. (printed by genpar.py)
-/
import Derived.Test.YtenjpnhccnmnpaaDoorGen
import Derived.Laws.CopyOwn
namespace Go.Proofs.YtenjpnhccnmnpaaDoor
open Go.RowKit Go.Bl
set_option linter.unusedVariables false

theorem cell_fr {S : List Nat} {w p : World} {b i : Nat} {v : Value} (h : Fr S w p) (hb : b ∉ S) (hc : w.cell? ⟨b, i, none⟩ = some v) : p.cell? ⟨b, i, none⟩ = some v := by
  unfold World.cell? at hc ⊢
  rcases Nat.lt_or_ge b w.heap.size with hl | hl
  · rw [h.block b hl hb]; exact hc
  · rw [Array.getElem?_eq_none hl] at hc; simp at hc
/-- k rounds of the inner loop -/
def parRow (y : UInt8) : Nat → List UInt8 → List UInt8
  | 0, r => r
  | k + 1, r => updX (parRow y k r) k (gmul y (genL.getD (31 - k) 0))
theorem parRow_len (y : UInt8) : ∀ (k : Nat) (r : List UInt8), (parRow y k r).length = r.length
  | 0, _ => rfl
  | k + 1, r => by simp only [parRow]; rw [updX_len, parRow_len y k r]
theorem updX_at (l : List UInt8) (i m : Nat) (x : UInt8) (hi : i < l.length) : (updX l i x).getD m 0 = if m = i then l.getD m 0 ^^^ x else l.getD m 0 := by
  unfold updX
  by_cases h : m = i
  · subst h
    simp [List.getD_eq_getElem?_getD, hi]
  · simp [List.getD_eq_getElem?_getD, List.getElem?_set_ne (Ne.symm h), h]
theorem parRow_get (y : UInt8) (m : Nat) : ∀ (k : Nat) (r : List UInt8), k ≤ r.length → (parRow y k r).getD m 0 = if m < k then r.getD m 0 ^^^ gmul y (genL.getD (31 - m) 0) else r.getD m 0
  | 0, r, _ => by rw [if_neg (by omega)]; rfl
  | k + 1, r, h => by
    simp only [parRow]
    rw [updX_at _ _ _ _ (by rw [parRow_len]; omega), parRow_get y m k r (by omega)]
    by_cases hm : m = k
    · subst hm
      rw [if_pos rfl, if_neg (by omega), if_pos (by omega)]
    · rw [if_neg hm]
      by_cases h2 : m < k
      · rw [if_pos h2, if_pos (by omega)]
      · rw [if_neg h2, if_neg (by omega)]
theorem parRow_step (R : List UInt8) (c : UInt8) (hR : R.length = 32) : parRow (c ^^^ R.getD 0 0) 32 (R.tail ++ [0]) = parStep R c := by
  have hl : (R.tail ++ [0]).length = 32 := by simp [hR]
  have h0 : R.headD 0 = R.getD 0 0 := by cases R <;> rfl
  apply List.ext_getElem
  · rw [parRow_len, hl, parStep_len R c hR]
  · intro m h1 h2
    rw [parRow_len, hl] at h1
    have := parRow_get (c ^^^ R.getD 0 0) m 32 (R.tail ++ [0]) (by omega)
    rw [if_pos h1, List.getD_eq_getElem?_getD, List.getElem?_eq_getElem (by rw [parRow_len]; omega), Option.getD_some] at this
    rw [this]
    simp only [parStep, List.getElem_mapIdx, h0]
    rw [List.getD_eq_getElem?_getD, List.getElem?_eq_getElem (by omega), Option.getD_some]

noncomputable def par_regR : Code := ((Tryd.f26.body.bind (findRegionC 15)).getD .skip)
set_option maxRecDepth 1000000 in
set_option maxHeartbeats 8000000 in
theorem par_reg (w : World) (a : Go.Act) (hsz : a.tmps.size = 58) (g tb gb go gc k : Nat) (out : List UInt8) (y z : UInt8) (hk : k < 32) (hol : out.length = 32) (hgt : g ≠ tb) (hgb : gb ∉ [g]) (h6 : slot a 6 = .slice (some ⟨g, 0, none⟩) 32 32) (h10 : slot a 10 = .int .i64 (k : Int)) (h4 : slot a 4 = .pointer (some ⟨tb, 0, none⟩)) (h9 : slot a 9 = .int .u8 (y.toNat : Int)) (h5 : slot a 5 = .slice (some ⟨gb, go, none⟩) 33 gc) (hz : w.cell? ⟨gb, go + (31 - k), none⟩ = some (.int .u8 (z.toNat : Int))) (hA : At w g (.cells (out.map u8v).toArray 5)) (hT : At w tb (.cells tabF 83)) (Q : Exit → Go.Act → World → Prop)
    (hQ : ∀ (b : Go.Act) (p : World), b.defers = a.defers → b.tmps.size = a.tmps.size → (∀ s, s ∉ ([41, 42, 43, 44, 45, 46, 47, 48, 49, 50, 51, 52, 53, 54] : List Nat) → slot b s = slot a s) → Fr [g] w p → At p g (.cells ((updX out k (gmul y z)).map u8v).toArray 5) → Q .normal b p) : Code.wp Tryd.prog par_regR Q a w := by
  conv => arg 2; whnf
  refine wp_region_chain (by kernel_rfl) (by kernel_rfl) [some 41, some 42, some 43, some 44, some 45, some 46, some 47, some 48, some 49, some 50, some 51, some 52, some 53, some 54, none] [11, 14] [.rd (.slice (some ⟨g, 0, none⟩) 32 32) 2, .rd (.int .i64 (k : Int)) 2, .rd (.pointer (some ⟨g, k, none⟩)) 2, .rd (.int .u8 ((out.getD k 0).toNat : Int)) 1, .rd (.pointer (some ⟨tb, 0, none⟩)) 2, .rd (.int .u8 (y.toNat : Int)) 2, .rd (.slice (some ⟨gb, go, none⟩) 33 gc) 2, .rd (.int .i64 (k : Int)) 2, .rd (.int .i64 ((31 - k : Nat) : Int)) 2, .rd (.pointer (some ⟨gb, go + (31 - k), none⟩)) 2, .rd (.int .u8 (z.toNat : Int)) 0, .st 0, .rd (.int .u8 ((out.getD k 0 ^^^ gmul y z).toNat : Int)) 2, .rd (.pointer (some ⟨g, k, none⟩)) 2, .st 1] (fun j => if j = 0 then (.int .u8 ((gmul y z).toNat : Int)) else undef) (fun s p => Fr [g] w p ∧ At p g (.cells (if s ≤ 1 then (out.map u8v).toArray else ((updX out k (gmul y z)).map u8v).toArray) 5) ∧ At p tb (.cells tabF 83)) (by kernel_rfl) (by rfl) (by rw [hsz]; rfl) (by kernel_rfl) (by kernel_rfl) (by decide) ?_ ⟨?_, ?_, ?_, ?_, ?_, ?_, ?_, ?_, ?_, ?_, ?_, ?_, ?_, ?_, ?_, trivial⟩ ?_
  · intro w1 hw1
    exact ⟨hw1.weak, by rw [if_pos (by decide)]; exact hA.keep0 hw1, hT.keep0 hw1⟩
  · refine ⟨⟨41, rfl⟩, .inl rfl, fun b p s hs hS h => ?_⟩
    have e0 : b.eval (.tmp 6) = .slice (some ⟨g, 0, none⟩) 32 32 := (h.old 6 (by decide)).trans h6
    have ec : ∀ v, b.eval (.const v) = v := fun _ => rfl
    obtain ⟨ρ, hρ⟩ : ∃ ρ, b.eval = ρ := ⟨_, rfl⟩
    rw [hρ] at e0 ec ⊢
    exact ⟨_, by simp only [List.getElem?_toArray, List.getElem?_cons_succ, List.getElem?_cons_zero]; rfl, rfl, by unfold execOp; simp [go_sem, e0, ec]⟩
  · refine ⟨⟨42, rfl⟩, .inl rfl, fun b p s hs hS h => ?_⟩
    have e0 : b.eval (.tmp 10) = .int .i64 (k : Int) := (h.old 10 (by decide)).trans h10
    have ec : ∀ v, b.eval (.const v) = v := fun _ => rfl
    obtain ⟨ρ, hρ⟩ : ∃ ρ, b.eval = ρ := ⟨_, rfl⟩
    rw [hρ] at e0 ec ⊢
    exact ⟨_, by simp only [List.getElem?_toArray, List.getElem?_cons_succ, List.getElem?_cons_zero]; rfl, rfl, by unfold execOp; simp [go_sem, e0, ec]⟩
  · refine ⟨⟨43, rfl⟩, .inl rfl, fun b p s hs hS h => ?_⟩
    have e0 := (show b.eval (.tmp 41) = .slice (some ⟨g, 0, none⟩) 32 32 from h.rd 0 _ _ 41 (by kernel_rfl) rfl rfl)
    have e1 := (show b.eval (.tmp 42) = .int .i64 (k : Int) from h.rd 1 _ _ 42 (by kernel_rfl) rfl rfl)
    have ec : ∀ v, b.eval (.const v) = v := fun _ => rfl
    obtain ⟨ρ, hρ⟩ : ∃ ρ, b.eval = ρ := ⟨_, rfl⟩
    rw [hρ] at e0 e1 ec ⊢
    exact ⟨_, by simp only [List.getElem?_toArray, List.getElem?_cons_succ, List.getElem?_cons_zero]; rfl, rfl, by unfold execOp; simp [go_sem, e0, e1, ec, show ¬ (32 : Int) ≤ (k : Int) by omega]⟩
  · refine ⟨⟨44, rfl⟩, .inr ⟨14, rfl, by kernel_rfl⟩, fun b p s hs hS h => ?_⟩
    have e0 := (show b.eval (.tmp 43) = .pointer (some ⟨g, k, none⟩) from h.rd 2 _ _ 43 (by kernel_rfl) rfl rfl)
    have c0 := (show p.cell? ⟨g, k, none⟩ = some (.int .u8 ((out.getD k 0).toNat : Int)) from by have hA := hS.2.1; rw [if_pos hs] at hA; exact byte_cell hA (by omega))
    have ec : ∀ v, b.eval (.const v) = v := fun _ => rfl
    obtain ⟨ρ, hρ⟩ : ∃ ρ, b.eval = ρ := ⟨_, rfl⟩
    rw [hρ] at e0 ec ⊢
    exact ⟨_, by simp only [List.getElem?_toArray, List.getElem?_cons_succ, List.getElem?_cons_zero]; rfl, rfl, by unfold execOp; simp [go_sem, e0, ec, c0]⟩
  · refine ⟨⟨45, rfl⟩, .inl rfl, fun b p s hs hS h => ?_⟩
    have e0 : b.eval (.tmp 4) = .pointer (some ⟨tb, 0, none⟩) := (h.old 4 (by decide)).trans h4
    have ec : ∀ v, b.eval (.const v) = v := fun _ => rfl
    obtain ⟨ρ, hρ⟩ : ∃ ρ, b.eval = ρ := ⟨_, rfl⟩
    rw [hρ] at e0 ec ⊢
    exact ⟨_, by simp only [List.getElem?_toArray, List.getElem?_cons_succ, List.getElem?_cons_zero]; rfl, rfl, by unfold execOp; simp [go_sem, e0, ec]⟩
  · refine ⟨⟨46, rfl⟩, .inl rfl, fun b p s hs hS h => ?_⟩
    have e0 : b.eval (.tmp 9) = .int .u8 (y.toNat : Int) := (h.old 9 (by decide)).trans h9
    have ec : ∀ v, b.eval (.const v) = v := fun _ => rfl
    obtain ⟨ρ, hρ⟩ : ∃ ρ, b.eval = ρ := ⟨_, rfl⟩
    rw [hρ] at e0 ec ⊢
    exact ⟨_, by simp only [List.getElem?_toArray, List.getElem?_cons_succ, List.getElem?_cons_zero]; rfl, rfl, by unfold execOp; simp [go_sem, e0, ec]⟩
  · refine ⟨⟨47, rfl⟩, .inl rfl, fun b p s hs hS h => ?_⟩
    have e0 : b.eval (.tmp 5) = .slice (some ⟨gb, go, none⟩) 33 gc := (h.old 5 (by decide)).trans h5
    have ec : ∀ v, b.eval (.const v) = v := fun _ => rfl
    obtain ⟨ρ, hρ⟩ : ∃ ρ, b.eval = ρ := ⟨_, rfl⟩
    rw [hρ] at e0 ec ⊢
    exact ⟨_, by simp only [List.getElem?_toArray, List.getElem?_cons_succ, List.getElem?_cons_zero]; rfl, rfl, by unfold execOp; simp [go_sem, e0, ec]⟩
  · refine ⟨⟨48, rfl⟩, .inl rfl, fun b p s hs hS h => ?_⟩
    have e0 : b.eval (.tmp 10) = .int .i64 (k : Int) := (h.old 10 (by decide)).trans h10
    have ec : ∀ v, b.eval (.const v) = v := fun _ => rfl
    obtain ⟨ρ, hρ⟩ : ∃ ρ, b.eval = ρ := ⟨_, rfl⟩
    rw [hρ] at e0 ec ⊢
    exact ⟨_, by simp only [List.getElem?_toArray, List.getElem?_cons_succ, List.getElem?_cons_zero]; rfl, rfl, by unfold execOp; simp [go_sem, e0, ec]⟩
  · refine ⟨⟨49, rfl⟩, .inl rfl, fun b p s hs hS h => ?_⟩
    have e0 := (show b.eval (.tmp 48) = .int .i64 (k : Int) from h.rd 7 _ _ 48 (by kernel_rfl) rfl rfl)
    have ec : ∀ v, b.eval (.const v) = v := fun _ => rfl
    obtain ⟨ρ, hρ⟩ : ∃ ρ, b.eval = ρ := ⟨_, rfl⟩
    rw [hρ] at e0 ec ⊢
    exact ⟨_, by simp only [List.getElem?_toArray, List.getElem?_cons_succ, List.getElem?_cons_zero]; rfl, rfl, by unfold execOp; simp [go_sem, e0, ec, show IntKind.i64.wrap ((31 : Int) - k) = ((31 - k : Nat) : Int) by rw [IntKind.wrap_i64]; omega]⟩
  · refine ⟨⟨50, rfl⟩, .inl rfl, fun b p s hs hS h => ?_⟩
    have e0 := (show b.eval (.tmp 47) = .slice (some ⟨gb, go, none⟩) 33 gc from h.rd 6 _ _ 47 (by kernel_rfl) rfl rfl)
    have e1 := (show b.eval (.tmp 49) = .int .i64 ((31 - k : Nat) : Int) from h.rd 8 _ _ 49 (by kernel_rfl) rfl rfl)
    have ec : ∀ v, b.eval (.const v) = v := fun _ => rfl
    obtain ⟨ρ, hρ⟩ : ∃ ρ, b.eval = ρ := ⟨_, rfl⟩
    rw [hρ] at e0 e1 ec ⊢
    exact ⟨_, by simp only [List.getElem?_toArray, List.getElem?_cons_succ, List.getElem?_cons_zero]; rfl, rfl, by unfold execOp; simp [go_sem, e0, e1, ec, show ¬ (33 : Int) ≤ ((31 - k : Nat) : Int) by omega]⟩
  · refine ⟨⟨51, rfl⟩, .inr ⟨11, rfl, by kernel_rfl⟩, fun b p s hs hS h => ?_⟩
    have e0 := (show b.eval (.tmp 50) = .pointer (some ⟨gb, go + (31 - k), none⟩) from h.rd 9 _ _ 50 (by kernel_rfl) rfl rfl)
    have c0 := cell_fr hS.1 hgb hz
    have ec : ∀ v, b.eval (.const v) = v := fun _ => rfl
    obtain ⟨ρ, hρ⟩ : ∃ ρ, b.eval = ρ := ⟨_, rfl⟩
    rw [hρ] at e0 ec ⊢
    exact ⟨_, by simp only [List.getElem?_toArray, List.getElem?_cons_succ, List.getElem?_cons_zero]; rfl, rfl, by unfold execOp; simp [go_sem, e0, ec, c0]⟩
  · refine ⟨rfl, .inl rfl, fun b p hS h => ?_⟩
    have e0 := (show b.eval (.tmp 45) = .pointer (some ⟨tb, 0, none⟩) from h.rd 4 _ _ 45 (by kernel_rfl) rfl rfl)
    have e1 := (show b.eval (.tmp 46) = .int .u8 (y.toNat : Int) from h.rd 5 _ _ 46 (by kernel_rfl) rfl rfl)
    have e2 := (show b.eval (.tmp 51) = .int .u8 (z.toNat : Int) from h.rd 10 _ _ 51 (by kernel_rfl) rfl rfl)
    obtain ⟨hf, hA, hT⟩ := hS
    refine opV_mono (K := fun v p' => v = .int .u8 ((gmul y z).toNat : Int) ∧ Fr [] p p') (fun v p' hv => ⟨⟨hf.trans hv.2.weak, by rw [if_pos (by decide)] at hA ⊢; exact hA.keep0 hv.2, hT.keep0 hv.2⟩, .inr hv.1⟩) ?_
    exact opV_tmul _ (by simp only [List.getElem?_toArray, List.getElem?_cons_succ, List.getElem?_cons_zero]; rfl) rfl 45 46 51 rfl tb y z e0 e1 e2 hT
  · refine ⟨⟨53, rfl⟩, .inl rfl, fun b p s hs hS h => ?_⟩
    have e0 := (show b.eval (.tmp 44) = .int .u8 ((out.getD k 0).toNat : Int) from h.rd 3 _ _ 44 (by kernel_rfl) rfl rfl)
    have e1 := (show b.eval (.tmp 52) = .int .u8 ((gmul y z).toNat : Int) from h.st 11 _ 52 (by kernel_rfl) rfl rfl)
    have ec : ∀ v, b.eval (.const v) = v := fun _ => rfl
    obtain ⟨ρ, hρ⟩ : ∃ ρ, b.eval = ρ := ⟨_, rfl⟩
    rw [hρ] at e0 e1 ec ⊢
    exact ⟨_, by simp only [List.getElem?_toArray, List.getElem?_cons_succ, List.getElem?_cons_zero]; rfl, rfl, by unfold execOp; simp [go_sem, e0, e1, ec, u8_xor_u]⟩
  · refine ⟨⟨54, rfl⟩, .inl rfl, fun b p s hs hS h => ?_⟩
    have e0 := (show b.eval (.tmp 41) = .slice (some ⟨g, 0, none⟩) 32 32 from h.rd 0 _ _ 41 (by kernel_rfl) rfl rfl)
    have e1 := (show b.eval (.tmp 42) = .int .i64 (k : Int) from h.rd 1 _ _ 42 (by kernel_rfl) rfl rfl)
    have ec : ∀ v, b.eval (.const v) = v := fun _ => rfl
    obtain ⟨ρ, hρ⟩ : ∃ ρ, b.eval = ρ := ⟨_, rfl⟩
    rw [hρ] at e0 e1 ec ⊢
    exact ⟨_, by simp only [List.getElem?_toArray, List.getElem?_cons_succ, List.getElem?_cons_zero]; rfl, rfl, by unfold execOp; simp [go_sem, e0, e1, ec, show ¬ (32 : Int) ≤ (k : Int) by omega]⟩
  · refine ⟨rfl, .inr ⟨11, rfl, by kernel_rfl⟩, fun b p hS h => ?_⟩
    have e0 := (show b.eval (.tmp 54) = .pointer (some ⟨g, k, none⟩) from h.rd 13 _ _ 54 (by kernel_rfl) rfl rfl)
    have e1 := (show b.eval (.tmp 53) = .int .u8 ((out.getD k 0 ^^^ gmul y z).toNat : Int) from h.rd 12 _ _ 53 (by kernel_rfl) rfl rfl)
    obtain ⟨hf, hA, hT⟩ := hS
    rw [if_pos (by decide)] at hA
    refine opV_mono (K := fun _ p' => Fr [g] w p' ∧ At p' g (.cells ((updX out k (gmul y z)).map u8v).toArray 5) ∧ At p' tb (.cells tabF 83)) (fun v p' hv => ⟨by show Fr [g] w p' ∧ At p' g (.cells (if 1 + 1 ≤ 1 then (out.map u8v).toArray else ((updX out k (gmul y z)).map u8v).toArray) 5) ∧ At p' tb (.cells tabF 83); rw [if_neg (by decide)]; exact hv, .inl rfl⟩) ?_
    refine opV_of_wpl (K := fun _ p' => Fr [g] w p' ∧ At p' g (.cells ((updX out k (gmul y z)).map u8v).toArray 5) ∧ At p' tb (.cells tabF 83)) _ (by simp only [List.getElem?_toArray, List.getElem?_cons_succ, List.getElem?_cons_zero]; rfl) ?_
    refine wpl_store_one (.tmp 54) (.tmp 53) rfl rfl (.int .u8 ((out.getD k 0 ^^^ gmul y z).toNat : Int)) e0 e1 hA (by simp; omega) (by kernel_rfl) rfl ?_
    intro p1 f1 a1 _
    exact ⟨rfl, rfl, hf.trans f1, by rw [updX_cells]; exact a1, hT.keep f1 (by simpa using hgt.symm)⟩
  · intro b p h1 h2 h3 hS4 h5
    exact hQ b p h1 h2 (fun s hs => h3 s (fun hm => hs (by simpa using hm))) hS4.1 (by have := hS4.2.1; rwa [if_neg (by decide)] at this)
end Go.Proofs.YtenjpnhccnmnpaaDoor
