/-
  Layer 2: the drawn region of the document's Mul of polynomials. (printed by gendmu.py)
-/
import Derived.Test.YtfblhdomjnffcaaDoorGB
import Derived.Test.YtfblhdomjnffcaaDoorRmu
import Derived.Test.YtfblhdomjnffcaaDoorTrm
import Derived.Test.YtfblhdomjnffcaaDoorGF
namespace Go.Proofs.YtfblhdomjnffcaaDoor
open Go.RowKit Go.Bl
set_option linter.unusedVariables false

set_option maxRecDepth 100000 in
theorem frame55 (a : Go.Act) (hs : a.tmps.size = 55) (hd : a.defers = []) : a = ⟨(slot a 0 :: slot a 1 :: slot a 2 :: slot a 3 :: slot a 4 :: slot a 5 :: slot a 6 :: slot a 7 :: slot a 8 :: slot a 9 :: slot a 10 :: slot a 11 :: slot a 12 :: slot a 13 :: slot a 14 :: slot a 15 :: slot a 16 :: slot a 17 :: slot a 18 :: slot a 19 :: slot a 20 :: slot a 21 :: slot a 22 :: slot a 23 :: slot a 24 :: slot a 25 :: slot a 26 :: slot a 27 :: slot a 28 :: slot a 29 :: slot a 30 :: slot a 31 :: slot a 32 :: slot a 33 :: slot a 34 :: slot a 35 :: slot a 36 :: slot a 37 :: slot a 38 :: slot a 39 :: slot a 40 :: slot a 41 :: slot a 42 :: slot a 43 :: slot a 44 :: slot a 45 :: slot a 46 :: slot a 47 :: slot a 48 :: slot a 49 :: slot a 50 :: slot a 51 :: slot a 52 :: slot a 53 :: slot a 54 :: []).toArray, []⟩ := frameX a 55 hs hd

noncomputable def rdmul_regR : Code := ((Tryd.f28.body.bind (findRegionC 10)).getD .skip)
set_option maxRecDepth 1000000 in
set_option maxHeartbeats 8000000 in
theorem rdmul_reg (w : World) (a : Go.Act) (hsz : a.tmps.size = 55) (pb po pn pc qb qo qn qc i k : Nat) (d x y : UInt8) (hik : i ≤ k) (hip : i < pn) (hkq : k - i < qn) (hn : pn ≤ 1000000) (hn2 : qn ≤ 1000000) (hx : w.cell? ⟨pb, po + i, none⟩ = some (.int .u8 (x.toNat : Int))) (hy : w.cell? ⟨qb, qo + (k - i), none⟩ = some (.int .u8 (y.toNat : Int))) (h7 : slot a 7 = .int .u8 (d.toNat : Int)) (h0 : slot a 0 = .slice (some ⟨pb, po, none⟩) pn pc) (h8 : slot a 8 = .int .i64 (i : Int)) (h1 : slot a 1 = .slice (some ⟨qb, qo, none⟩) qn qc) (h6 : slot a 6 = .int .i64 (k : Int)) (Q : Exit → Go.Act → World → Prop)
    (hQ : ∀ (b : Go.Act) (p : World), b.defers = a.defers → b.tmps.size = 55 → (∀ s, s ∉ ([36, 37, 38, 39, 40, 41, 42, 43, 44, 45, 46, 47, 48, 7] : List Nat) → slot b s = slot a s) → slot b 7 = .int .u8 ((d ^^^ gmul x y).toNat : Int) → Fr [] w p → Q .normal b p) : Code.wp Tryd.prog rdmul_regR Q a w := by
  conv => arg 2; whnf
  refine wp_region_ghost (by kernel_rfl) (by kernel_rfl) [some 36, some 37, some 38, some 39, some 40, some 41, some 42, some 43, some 44, some 45, some 46, some 47, some 48, some 7] [11] [.rd (.int .u8 (d.toNat : Int)) 1, .rd (.slice (some ⟨pb, po, none⟩) pn pc) 1, .rd (.int .i64 (i : Int)) 1, .rd (.pointer (some ⟨pb, po + i, none⟩)) 1, .rd (.int .u8 (x.toNat : Int)) 1, .rd (.slice (some ⟨qb, qo, none⟩) qn qc) 1, .rd (.int .i64 (k : Int)) 1, .rd (.int .i64 (i : Int)) 1, .rd (.int .i64 ((k - i : Nat) : Int)) 1, .rd (.pointer (some ⟨qb, qo + (k - i), none⟩)) 1, .rd (.int .u8 (y.toNat : Int)) 1, .st 0, .rd (.int .u8 ((d ^^^ gmul x y).toNat : Int)) 1, .rd (.int .u8 ((d ^^^ gmul x y).toNat : Int)) 1] (fun cj => if cj = 0 then (.int .u8 ((gmul x y).toNat : Int)) else undef) (fun s g p => Fr [] w p) (by kernel_rfl) (by rfl) (by rw [hsz]; rfl) (by kernel_rfl) (by kernel_rfl) (by decide) ?_ ⟨?_, ?_, ?_, ?_, ?_, ?_, ?_, ?_, ?_, ?_, ?_, ?_, ?_, ?_, trivial⟩ ?_
  · intro w1 hw1
    exact ⟨fun _ => undef, hw1⟩
  · refine ⟨⟨36, rfl⟩, .inl rfl, fun b p s g hs hlow hS h => ?_⟩
    have e0 := (show b.eval (.tmp 7) = .int .u8 (d.toNat : Int) from (h.un 13 7 (by kernel_rfl) rfl).trans h7)
    have ec : ∀ v, b.eval (.const v) = v := fun _ => rfl
    refine ⟨_, by simp only [List.getElem?_toArray, List.getElem?_cons_succ, List.getElem?_cons_zero]; rfl, .inl ⟨(wanted_none rfl), ?_⟩⟩
    obtain ⟨ρ, hρ⟩ : ∃ ρ, b.eval = ρ := ⟨_, rfl⟩
    rw [hρ] at e0 ec ⊢
    unfold execOp; simp [go_sem, e0, ec]
  · refine ⟨⟨37, rfl⟩, .inl rfl, fun b p s g hs hlow hS h => ?_⟩
    have e0 := (show b.eval (.tmp 0) = .slice (some ⟨pb, po, none⟩) pn pc from (h.old 0 (by decide)).trans h0)
    have ec : ∀ v, b.eval (.const v) = v := fun _ => rfl
    refine ⟨_, by simp only [List.getElem?_toArray, List.getElem?_cons_succ, List.getElem?_cons_zero]; rfl, .inl ⟨(wanted_none rfl), ?_⟩⟩
    obtain ⟨ρ, hρ⟩ : ∃ ρ, b.eval = ρ := ⟨_, rfl⟩
    rw [hρ] at e0 ec ⊢
    unfold execOp; simp [go_sem, e0, ec]
  · refine ⟨⟨38, rfl⟩, .inl rfl, fun b p s g hs hlow hS h => ?_⟩
    have e0 := (show b.eval (.tmp 8) = .int .i64 (i : Int) from (h.old 8 (by decide)).trans h8)
    have ec : ∀ v, b.eval (.const v) = v := fun _ => rfl
    refine ⟨_, by simp only [List.getElem?_toArray, List.getElem?_cons_succ, List.getElem?_cons_zero]; rfl, .inl ⟨(wanted_none rfl), ?_⟩⟩
    obtain ⟨ρ, hρ⟩ : ∃ ρ, b.eval = ρ := ⟨_, rfl⟩
    rw [hρ] at e0 ec ⊢
    unfold execOp; simp [go_sem, e0, ec]
  · refine ⟨⟨39, rfl⟩, .inl rfl, fun b p s g hs hlow hS h => ?_⟩
    have e0 := (show b.eval (.tmp 37) = .slice (some ⟨pb, po, none⟩) pn pc from h.rd 1 _ _ 37 (by kernel_rfl) rfl rfl)
    have e1 := (show b.eval (.tmp 38) = .int .i64 (i : Int) from h.rd 2 _ _ 38 (by kernel_rfl) rfl rfl)
    have ec : ∀ v, b.eval (.const v) = v := fun _ => rfl
    refine ⟨_, by simp only [List.getElem?_toArray, List.getElem?_cons_succ, List.getElem?_cons_zero]; rfl, .inl ⟨(wanted_none rfl), ?_⟩⟩
    obtain ⟨ρ, hρ⟩ : ∃ ρ, b.eval = ρ := ⟨_, rfl⟩
    rw [hρ] at e0 e1 ec ⊢
    unfold execOp; simp [go_sem, e0, e1, ec, show (i : Int) < pn by omega, show i < pn by omega]
  · refine ⟨⟨40, rfl⟩, .inl rfl, fun b p s g hs hlow hS h => ?_⟩
    have e0 := (show b.eval (.tmp 39) = .pointer (some ⟨pb, po + i, none⟩) from h.rd 3 _ _ 39 (by kernel_rfl) rfl rfl)
    have hf := hS
    have c0 := (show p.cell? ⟨pb, po + i, none⟩ = some (.int .u8 (x.toNat : Int)) from (cell_mono hf hx))
    have ec : ∀ v, b.eval (.const v) = v := fun _ => rfl
    refine ⟨_, by simp only [List.getElem?_toArray, List.getElem?_cons_succ, List.getElem?_cons_zero]; rfl, .inl ⟨(wanted_none rfl), ?_⟩⟩
    obtain ⟨ρ, hρ⟩ : ∃ ρ, b.eval = ρ := ⟨_, rfl⟩
    rw [hρ] at e0 ec ⊢
    unfold execOp; simp [go_sem, e0, ec, c0]
  · refine ⟨⟨41, rfl⟩, .inl rfl, fun b p s g hs hlow hS h => ?_⟩
    have e0 := (show b.eval (.tmp 1) = .slice (some ⟨qb, qo, none⟩) qn qc from (h.old 1 (by decide)).trans h1)
    have ec : ∀ v, b.eval (.const v) = v := fun _ => rfl
    refine ⟨_, by simp only [List.getElem?_toArray, List.getElem?_cons_succ, List.getElem?_cons_zero]; rfl, .inl ⟨(wanted_none rfl), ?_⟩⟩
    obtain ⟨ρ, hρ⟩ : ∃ ρ, b.eval = ρ := ⟨_, rfl⟩
    rw [hρ] at e0 ec ⊢
    unfold execOp; simp [go_sem, e0, ec]
  · refine ⟨⟨42, rfl⟩, .inl rfl, fun b p s g hs hlow hS h => ?_⟩
    have e0 := (show b.eval (.tmp 6) = .int .i64 (k : Int) from (h.old 6 (by decide)).trans h6)
    have ec : ∀ v, b.eval (.const v) = v := fun _ => rfl
    refine ⟨_, by simp only [List.getElem?_toArray, List.getElem?_cons_succ, List.getElem?_cons_zero]; rfl, .inl ⟨(wanted_none rfl), ?_⟩⟩
    obtain ⟨ρ, hρ⟩ : ∃ ρ, b.eval = ρ := ⟨_, rfl⟩
    rw [hρ] at e0 ec ⊢
    unfold execOp; simp [go_sem, e0, ec]
  · refine ⟨⟨43, rfl⟩, .inl rfl, fun b p s g hs hlow hS h => ?_⟩
    have e0 := (show b.eval (.tmp 8) = .int .i64 (i : Int) from (h.old 8 (by decide)).trans h8)
    have ec : ∀ v, b.eval (.const v) = v := fun _ => rfl
    refine ⟨_, by simp only [List.getElem?_toArray, List.getElem?_cons_succ, List.getElem?_cons_zero]; rfl, .inl ⟨(wanted_none rfl), ?_⟩⟩
    obtain ⟨ρ, hρ⟩ : ∃ ρ, b.eval = ρ := ⟨_, rfl⟩
    rw [hρ] at e0 ec ⊢
    unfold execOp; simp [go_sem, e0, ec]
  · refine ⟨⟨44, rfl⟩, .inl rfl, fun b p s g hs hlow hS h => ?_⟩
    have e0 := (show b.eval (.tmp 42) = .int .i64 (k : Int) from h.rd 6 _ _ 42 (by kernel_rfl) rfl rfl)
    have e1 := (show b.eval (.tmp 43) = .int .i64 (i : Int) from h.rd 7 _ _ 43 (by kernel_rfl) rfl rfl)
    have ec : ∀ v, b.eval (.const v) = v := fun _ => rfl
    refine ⟨_, by simp only [List.getElem?_toArray, List.getElem?_cons_succ, List.getElem?_cons_zero]; rfl, .inl ⟨(wanted_none rfl), ?_⟩⟩
    obtain ⟨ρ, hρ⟩ : ∃ ρ, b.eval = ρ := ⟨_, rfl⟩
    rw [hρ] at e0 e1 ec ⊢
    unfold execOp; simp [go_sem, e0, e1, ec, show IntKind.i64.wrap ((k : Int) - i) = ((k - i : Nat) : Int) by rw [IntKind.wrap_i64]; omega]
  · refine ⟨⟨45, rfl⟩, .inl rfl, fun b p s g hs hlow hS h => ?_⟩
    have e0 := (show b.eval (.tmp 41) = .slice (some ⟨qb, qo, none⟩) qn qc from h.rd 5 _ _ 41 (by kernel_rfl) rfl rfl)
    have e1 := (show b.eval (.tmp 44) = .int .i64 ((k - i : Nat) : Int) from h.rd 8 _ _ 44 (by kernel_rfl) rfl rfl)
    have ec : ∀ v, b.eval (.const v) = v := fun _ => rfl
    refine ⟨_, by simp only [List.getElem?_toArray, List.getElem?_cons_succ, List.getElem?_cons_zero]; rfl, .inl ⟨(wanted_none rfl), ?_⟩⟩
    obtain ⟨ρ, hρ⟩ : ∃ ρ, b.eval = ρ := ⟨_, rfl⟩
    rw [hρ] at e0 e1 ec ⊢
    unfold execOp; simp [go_sem, e0, e1, ec, show ((k - i : Nat) : Int) < qn by omega, show k - i < qn by omega]
  · refine ⟨⟨46, rfl⟩, .inl rfl, fun b p s g hs hlow hS h => ?_⟩
    have e0 := (show b.eval (.tmp 45) = .pointer (some ⟨qb, qo + (k - i), none⟩) from h.rd 9 _ _ 45 (by kernel_rfl) rfl rfl)
    have hf := hS
    have c0 := (show p.cell? ⟨qb, qo + (k - i), none⟩ = some (.int .u8 (y.toNat : Int)) from (cell_mono hf hy))
    have ec : ∀ v, b.eval (.const v) = v := fun _ => rfl
    refine ⟨_, by simp only [List.getElem?_toArray, List.getElem?_cons_succ, List.getElem?_cons_zero]; rfl, .inl ⟨(wanted_none rfl), ?_⟩⟩
    obtain ⟨ρ, hρ⟩ : ∃ ρ, b.eval = ρ := ⟨_, rfl⟩
    rw [hρ] at e0 ec ⊢
    unfold execOp; simp [go_sem, e0, ec, c0]
  · refine ⟨rfl, .inl rfl, fun b p g hS h => ?_⟩
    have e0 := (show b.eval (.tmp 40) = .int .u8 (x.toNat : Int) from h.rd 4 _ _ 40 (by kernel_rfl) rfl rfl)
    have e1 := (show b.eval (.tmp 46) = .int .u8 (y.toNat : Int) from h.rd 10 _ _ 46 (by kernel_rfl) rfl rfl)
    have hf := hS
    refine opV_func _ (by simp only [List.getElem?_toArray, List.getElem?_cons_succ, List.getElem?_cons_zero]; rfl) (wanted_none rfl) 49 _ _ rfl #[.int .u8 (x.toNat : Int), .int .u8 (y.toNat : Int)] (by simp only [List.map_toArray, List.map_cons, List.map_nil, e0, e1]) (by simp [go_sem]) ((rmul_any p x y).mono ?_)
    rintro e p' ⟨rfl, hf'⟩
    exact ⟨_, rfl, hf.trans hf', .inr rfl⟩
  · refine ⟨⟨48, rfl⟩, .inl rfl, fun b p s g hs hlow hS h => ?_⟩
    have e0 := (show b.eval (.tmp 36) = .int .u8 (d.toNat : Int) from h.rd 0 _ _ 36 (by kernel_rfl) rfl rfl)
    have e1 := (show b.eval (.tmp 47) = .int .u8 ((gmul x y).toNat : Int) from h.st 11 _ 47 (by kernel_rfl) rfl rfl)
    have ec : ∀ v, b.eval (.const v) = v := fun _ => rfl
    refine ⟨_, by simp only [List.getElem?_toArray, List.getElem?_cons_succ, List.getElem?_cons_zero]; rfl, .inl ⟨(wanted_none rfl), ?_⟩⟩
    obtain ⟨ρ, hρ⟩ : ∃ ρ, b.eval = ρ := ⟨_, rfl⟩
    rw [hρ] at e0 e1 ec ⊢
    unfold execOp; simp [go_sem, e0, e1, ec, u8_xor_u]
  · refine ⟨⟨7, rfl⟩, .inl rfl, fun b p s g hs hlow hS h => ?_⟩
    have e0 := (show b.eval (.tmp 48) = .int .u8 ((d ^^^ gmul x y).toNat : Int) from h.rd 12 _ _ 48 (by kernel_rfl) rfl rfl)
    have ec : ∀ v, b.eval (.const v) = v := fun _ => rfl
    refine ⟨_, by simp only [List.getElem?_toArray, List.getElem?_cons_succ, List.getElem?_cons_zero]; rfl, .inl ⟨(wanted_none rfl), ?_⟩⟩
    obtain ⟨ρ, hρ⟩ : ∃ ρ, b.eval = ρ := ⟨_, rfl⟩
    rw [hρ] at e0 ec ⊢
    unfold execOp; simp [go_sem, e0, ec]
  · intro b p h1 h2 h3 h4 h5
    obtain ⟨g, h4, h6⟩ := h4
    have r7 : slot b 7 = .int .u8 ((d ^^^ gmul x y).toNat : Int) := h5 13 (.int .u8 ((d ^^^ gmul x y).toNat : Int)) _ 7 rfl rfl
    exact hQ b p h1 (h2.trans hsz) (fun s hs => h3 s (fun hm => hs (by simpa using hm))) r7 h4
end Go.Proofs.YtfblhdomjnffcaaDoor
