/-
  Layer 5: repair.Amount's drawn region. (printed by genamo.py)
-/
import Derived.Test.YtmohiblgfmdkjaaDoorGB
import Derived.Test.YtmohiblgfmdkjaaDoorStr
import Derived.Test.YtmohiblgfmdkjaaDoorGD
namespace Go.Proofs.YtmohiblgfmdkjaaDoor
open Go.RowKit Go.Bl
set_option linter.unusedVariables false
set_option maxRecDepth 100000 in
theorem frame49 (a : Go.Act) (hs : a.tmps.size = 49) (hd : a.defers = []) : a = ⟨(slot a 0 :: slot a 1 :: slot a 2 :: slot a 3 :: slot a 4 :: slot a 5 :: slot a 6 :: slot a 7 :: slot a 8 :: slot a 9 :: slot a 10 :: slot a 11 :: slot a 12 :: slot a 13 :: slot a 14 :: slot a 15 :: slot a 16 :: slot a 17 :: slot a 18 :: slot a 19 :: slot a 20 :: slot a 21 :: slot a 22 :: slot a 23 :: slot a 24 :: slot a 25 :: slot a 26 :: slot a 27 :: slot a 28 :: slot a 29 :: slot a 30 :: slot a 31 :: slot a 32 :: slot a 33 :: slot a 34 :: slot a 35 :: slot a 36 :: slot a 37 :: slot a 38 :: slot a 39 :: slot a 40 :: slot a 41 :: slot a 42 :: slot a 43 :: slot a 44 :: slot a 45 :: slot a 46 :: slot a 47 :: slot a 48 :: []).toArray, []⟩ := frameX a 49 hs hd

noncomputable def amo_regR : Code := ((Tryd.f91.body.bind (findRegionC 6)).getD .skip)
set_option maxRecDepth 1000000 in
set_option maxHeartbeats 8000000 in
theorem amo_reg (w : World) (a : Go.Act) (hsz : a.tmps.size = 49) (fb un uc en ec : Nat) (ua ea : Option Addr) (y av bv : UInt8) (qv rv : Value) (sl : List UInt8) (hc1 : w.cell? ⟨fb, 1, none⟩ = some (.slice ua un uc)) (hc2 : w.cell? ⟨fb, 2, none⟩ = some (.slice ea en ec)) (hev : ∀ p, Fr [] w p → Calls Tryd.prog 111 #[.slice ea en ec, .int .u8 (y.toNat : Int)] p fun e w' => e = .returned (.int .u8 (av.toNat : Int)) ∧ Fr [] p w') (hsl : ∀ p, Fr [] w p → Calls Tryd.prog 114 #[.slice ua un uc] p fun e w' => ∃ u, e = .returned u ∧ OwnB 5 p.heap.size w' u sl ∧ Fr [] p w') (hes : ∀ p v, Fr [] w p → OwnB 5 w.heap.size p v sl → Calls Tryd.prog 111 #[v, .int .u8 (y.toNat : Int)] p fun e w' => e = .returned (.int .u8 (bv.toNat : Int)) ∧ Fr [] p w') (hdv : ∀ p, Fr [] w p → Calls Tryd.prog 113 #[.int .u8 (av.toNat : Int), .int .u8 (bv.toNat : Int)] p fun e w' => e = .returned (.tuple #[qv, rv]) ∧ Fr [] p w') (h3 : slot a 3 = .pointer (some ⟨fb, 0, none⟩)) (h8 : slot a 8 = .int .u8 (y.toNat : Int)) (Q : Exit → Go.Act → World → Prop)
    (hQ : ∀ (b : Go.Act) (p : World), b.defers = a.defers → b.tmps.size = 49 → (∀ s, s ∉ ([29, 30, 31, 32, 33, 34, 35, 36, 37, 38, 28, 39, 40, 9, 10] : List Nat) → slot b s = slot a s) → slot b 9 = qv → slot b 10 = rv → Fr [] w p → Q .normal b p) : Code.wp Tryd.prog amo_regR Q a w := by
  conv => arg 2; whnf
  refine wp_region_ghost (by kernel_rfl) (by kernel_rfl) [some 29, some 30, some 31, some 32, some 33, some 34, some 35, some 36, some 37, some 38, some 28, some 39, some 40, some 9, some 10] [3, 6, 8, 9] [.rd (.pointer (some ⟨fb, 2, none⟩)) 4, .rd (.slice ea en ec) 4, .rd (.int .u8 (y.toNat : Int)) 4, .st 0, .rd (.pointer (some ⟨fb, 1, none⟩)) 4, .rd (.slice ua un uc) 4, .gh 1, .rd (.int .u8 (y.toNat : Int)) 4, .st 2, .st 3, .rd (.tuple #[qv, rv]) 4, .rd (qv) 4, .rd (rv) 4, .rd (qv) 4, .rd (rv) 4] (fun cj => if cj = 0 then (.int .u8 (av.toNat : Int)) else if cj = 2 then (.int .u8 (bv.toNat : Int)) else if cj = 3 then (.tuple #[qv, rv]) else undef) (fun s g p => Fr [] w p ∧ (1 < s → OwnB 5 w.heap.size p (g 1) sl)) (by kernel_rfl) (by rfl) (by rw [hsz]; rfl) (by kernel_rfl) (by kernel_rfl) (by decide) ?_ ⟨?_, ?_, ?_, ?_, ?_, ?_, ?_, ?_, ?_, ?_, ?_, ?_, ?_, ?_, ?_, trivial⟩ ?_
  · intro w1 hw1
    exact ⟨fun _ => undef, ⟨hw1, fun hk => absurd hk (by decide)⟩⟩
  · refine ⟨⟨29, rfl⟩, .inl rfl, fun b p s g hs hlow hS h => ?_⟩
    have e0 := (show b.eval (.tmp 3) = .pointer (some ⟨fb, 0, none⟩) from (h.old 3 (by decide)).trans h3)
    have ec : ∀ v, b.eval (.const v) = v := fun _ => rfl
    refine ⟨_, by simp only [List.getElem?_toArray, List.getElem?_cons_succ, List.getElem?_cons_zero]; rfl, .inl ⟨(wanted_none rfl), ?_⟩⟩
    obtain ⟨ρ, hρ⟩ : ∃ ρ, b.eval = ρ := ⟨_, rfl⟩
    rw [hρ] at e0 ec ⊢
    unfold execOp; simp [go_sem, e0, ec]
  · refine ⟨⟨30, rfl⟩, .inl rfl, fun b p s g hs hlow hS h => ?_⟩
    have e0 := (show b.eval (.tmp 29) = .pointer (some ⟨fb, 2, none⟩) from h.rd 0 _ _ 29 (by kernel_rfl) rfl rfl)
    obtain ⟨hf, q0⟩ := hS
    have c0 := (show p.cell? ⟨fb, 2, none⟩ = some (.slice ea en ec) from (cell_mono hf hc2))
    have ec : ∀ v, b.eval (.const v) = v := fun _ => rfl
    refine ⟨_, by simp only [List.getElem?_toArray, List.getElem?_cons_succ, List.getElem?_cons_zero]; rfl, .inl ⟨(wanted_none rfl), ?_⟩⟩
    obtain ⟨ρ, hρ⟩ : ∃ ρ, b.eval = ρ := ⟨_, rfl⟩
    rw [hρ] at e0 ec ⊢
    unfold execOp; simp [go_sem, e0, ec, c0]
  · refine ⟨⟨31, rfl⟩, .inl rfl, fun b p s g hs hlow hS h => ?_⟩
    have e0 := (show b.eval (.tmp 8) = .int .u8 (y.toNat : Int) from (h.old 8 (by decide)).trans h8)
    have ec : ∀ v, b.eval (.const v) = v := fun _ => rfl
    refine ⟨_, by simp only [List.getElem?_toArray, List.getElem?_cons_succ, List.getElem?_cons_zero]; rfl, .inl ⟨(wanted_none rfl), ?_⟩⟩
    obtain ⟨ρ, hρ⟩ : ∃ ρ, b.eval = ρ := ⟨_, rfl⟩
    rw [hρ] at e0 ec ⊢
    unfold execOp; simp [go_sem, e0, ec]
  · refine ⟨rfl, .inl rfl, fun b p g hS h => ?_⟩
    have e0 := (show b.eval (.tmp 30) = .slice ea en ec from h.rd 1 _ _ 30 (by kernel_rfl) rfl rfl)
    have e1 := (show b.eval (.tmp 31) = .int .u8 (y.toNat : Int) from h.rd 2 _ _ 31 (by kernel_rfl) rfl rfl)
    obtain ⟨hf, q0⟩ := hS
    refine opV_func _ (by simp only [List.getElem?_toArray, List.getElem?_cons_succ, List.getElem?_cons_zero]; rfl) (wanted_none rfl) 111 _ _ rfl #[.slice ea en ec, .int .u8 (y.toNat : Int)] (by simp only [List.map_toArray, List.map_cons, List.map_nil, e0, e1]) (by simp [go_sem]) ((hev p hf).mono ?_)
    rintro e p' ⟨rfl, hf'⟩
    exact ⟨_, rfl, ⟨hf.trans hf', fun hk => absurd hk (by decide)⟩, .inr rfl⟩
  · refine ⟨⟨33, rfl⟩, .inl rfl, fun b p s g hs hlow hS h => ?_⟩
    have e0 := (show b.eval (.tmp 3) = .pointer (some ⟨fb, 0, none⟩) from (h.old 3 (by decide)).trans h3)
    have ec : ∀ v, b.eval (.const v) = v := fun _ => rfl
    refine ⟨_, by simp only [List.getElem?_toArray, List.getElem?_cons_succ, List.getElem?_cons_zero]; rfl, .inl ⟨(wanted_none rfl), ?_⟩⟩
    obtain ⟨ρ, hρ⟩ : ∃ ρ, b.eval = ρ := ⟨_, rfl⟩
    rw [hρ] at e0 ec ⊢
    unfold execOp; simp [go_sem, e0, ec]
  · refine ⟨⟨34, rfl⟩, .inl rfl, fun b p s g hs hlow hS h => ?_⟩
    have e0 := (show b.eval (.tmp 33) = .pointer (some ⟨fb, 1, none⟩) from h.rd 4 _ _ 33 (by kernel_rfl) rfl rfl)
    obtain ⟨hf, q0⟩ := hS
    have c0 := (show p.cell? ⟨fb, 1, none⟩ = some (.slice ua un uc) from (cell_mono hf hc1))
    have ec : ∀ v, b.eval (.const v) = v := fun _ => rfl
    refine ⟨_, by simp only [List.getElem?_toArray, List.getElem?_cons_succ, List.getElem?_cons_zero]; rfl, .inl ⟨(wanted_none rfl), ?_⟩⟩
    obtain ⟨ρ, hρ⟩ : ∃ ρ, b.eval = ρ := ⟨_, rfl⟩
    rw [hρ] at e0 ec ⊢
    unfold execOp; simp [go_sem, e0, ec, c0]
  · refine ⟨rfl, .inr ⟨3, rfl, by kernel_rfl⟩, fun b p g hS h => ?_⟩
    have e0 := (show b.eval (.tmp 34) = .slice ua un uc from h.rd 5 _ _ 34 (by kernel_rfl) rfl rfl)
    obtain ⟨hf, q0⟩ := hS
    refine opV_func _ (by simp only [List.getElem?_toArray, List.getElem?_cons_succ, List.getElem?_cons_zero]; rfl) (wanted_none rfl) 114 _ _ rfl #[.slice ua un uc] (by simp only [List.map_toArray, List.map_cons, List.map_nil, e0]) (by simp [go_sem]) ((hsl p hf).mono ?_)
    rintro e p' ⟨u, rfl, ho, hf'⟩
    exact ⟨_, rfl, ⟨hf.trans hf', fun _ => ho.base hf.size⟩⟩
  · refine ⟨⟨36, rfl⟩, .inl rfl, fun b p s g hs hlow hS h => ?_⟩
    have e0 := (show b.eval (.tmp 8) = .int .u8 (y.toNat : Int) from (h.old 8 (by decide)).trans h8)
    have ec : ∀ v, b.eval (.const v) = v := fun _ => rfl
    refine ⟨_, by simp only [List.getElem?_toArray, List.getElem?_cons_succ, List.getElem?_cons_zero]; rfl, .inl ⟨(wanted_none rfl), ?_⟩⟩
    obtain ⟨ρ, hρ⟩ : ∃ ρ, b.eval = ρ := ⟨_, rfl⟩
    rw [hρ] at e0 ec ⊢
    unfold execOp; simp [go_sem, e0, ec]
  · refine ⟨rfl, .inr ⟨6, rfl, by kernel_rfl⟩, fun b p g hS h => ?_⟩
    have e0 := (show b.eval (.tmp 35) = g 1 from h.gh 6 _ 35 (by kernel_rfl) rfl rfl)
    have e1 := (show b.eval (.tmp 36) = .int .u8 (y.toNat : Int) from h.rd 7 _ _ 36 (by kernel_rfl) rfl rfl)
    obtain ⟨hf, q0⟩ := hS
    refine opV_func _ (by simp only [List.getElem?_toArray, List.getElem?_cons_succ, List.getElem?_cons_zero]; rfl) (wanted_none rfl) 111 _ _ rfl #[g 1, .int .u8 (y.toNat : Int)] (by simp only [List.map_toArray, List.map_cons, List.map_nil, e0, e1]) (by simp [go_sem]) ((hes p _ hf (q0 (by decide))).mono ?_)
    rintro e p' ⟨rfl, hf'⟩
    exact ⟨_, rfl, ⟨hf.trans hf', fun _ => (q0 (by decide)).keep hf' (by simp)⟩, .inr rfl⟩
  · refine ⟨rfl, .inr ⟨8, rfl, by kernel_rfl⟩, fun b p g hS h => ?_⟩
    have e0 := (show b.eval (.tmp 32) = .int .u8 (av.toNat : Int) from h.st 3 _ 32 (by kernel_rfl) rfl rfl)
    have e1 := (show b.eval (.tmp 37) = .int .u8 (bv.toNat : Int) from h.st 8 _ 37 (by kernel_rfl) rfl rfl)
    obtain ⟨hf, q0⟩ := hS
    refine opV_func _ (by simp only [List.getElem?_toArray, List.getElem?_cons_succ, List.getElem?_cons_zero]; rfl) (wanted_none rfl) 113 _ _ rfl #[.int .u8 (av.toNat : Int), .int .u8 (bv.toNat : Int)] (by simp only [List.map_toArray, List.map_cons, List.map_nil, e0, e1]) (by simp [go_sem]) ((hdv p hf).mono ?_)
    rintro e p' ⟨rfl, hf'⟩
    exact ⟨_, rfl, ⟨hf.trans hf', fun _ => (q0 (by decide)).keep hf' (by simp)⟩, .inr rfl⟩
  · refine ⟨⟨28, rfl⟩, .inl rfl, fun b p s g hs hlow hS h => ?_⟩
    have e0 := (show b.eval (.tmp 38) = .tuple #[qv, rv] from h.st 9 _ 38 (by kernel_rfl) rfl rfl)
    have ec : ∀ v, b.eval (.const v) = v := fun _ => rfl
    refine ⟨_, by simp only [List.getElem?_toArray, List.getElem?_cons_succ, List.getElem?_cons_zero]; rfl, .inl ⟨(wanted_none rfl), ?_⟩⟩
    obtain ⟨ρ, hρ⟩ : ∃ ρ, b.eval = ρ := ⟨_, rfl⟩
    rw [hρ] at e0 ec ⊢
    unfold execOp; simp [go_sem, e0, ec]
  · refine ⟨⟨39, rfl⟩, .inl rfl, fun b p s g hs hlow hS h => ?_⟩
    have e0 := (show b.eval (.tmp 28) = .tuple #[qv, rv] from h.rd 10 _ _ 28 (by kernel_rfl) rfl rfl)
    have ec : ∀ v, b.eval (.const v) = v := fun _ => rfl
    refine ⟨_, by simp only [List.getElem?_toArray, List.getElem?_cons_succ, List.getElem?_cons_zero]; rfl, .inl ⟨(wanted_none rfl), ?_⟩⟩
    obtain ⟨ρ, hρ⟩ : ∃ ρ, b.eval = ρ := ⟨_, rfl⟩
    rw [hρ] at e0 ec ⊢
    unfold execOp; simp [go_sem, e0, ec]
  · refine ⟨⟨40, rfl⟩, .inl rfl, fun b p s g hs hlow hS h => ?_⟩
    have e0 := (show b.eval (.tmp 28) = .tuple #[qv, rv] from h.rd 10 _ _ 28 (by kernel_rfl) rfl rfl)
    have ec : ∀ v, b.eval (.const v) = v := fun _ => rfl
    refine ⟨_, by simp only [List.getElem?_toArray, List.getElem?_cons_succ, List.getElem?_cons_zero]; rfl, .inl ⟨(wanted_none rfl), ?_⟩⟩
    obtain ⟨ρ, hρ⟩ : ∃ ρ, b.eval = ρ := ⟨_, rfl⟩
    rw [hρ] at e0 ec ⊢
    unfold execOp; simp [go_sem, e0, ec]
  · refine ⟨⟨9, rfl⟩, .inl rfl, fun b p s g hs hlow hS h => ?_⟩
    have e0 := (show b.eval (.tmp 39) = qv from h.rd 11 _ _ 39 (by kernel_rfl) rfl rfl)
    have ec : ∀ v, b.eval (.const v) = v := fun _ => rfl
    refine ⟨_, by simp only [List.getElem?_toArray, List.getElem?_cons_succ, List.getElem?_cons_zero]; rfl, .inl ⟨(wanted_none rfl), ?_⟩⟩
    obtain ⟨ρ, hρ⟩ : ∃ ρ, b.eval = ρ := ⟨_, rfl⟩
    rw [hρ] at e0 ec ⊢
    unfold execOp; simp [go_sem, e0, ec]
  · refine ⟨⟨10, rfl⟩, .inl rfl, fun b p s g hs hlow hS h => ?_⟩
    have e0 := (show b.eval (.tmp 40) = rv from h.rd 12 _ _ 40 (by kernel_rfl) rfl rfl)
    have ec : ∀ v, b.eval (.const v) = v := fun _ => rfl
    refine ⟨_, by simp only [List.getElem?_toArray, List.getElem?_cons_succ, List.getElem?_cons_zero]; rfl, .inl ⟨(wanted_none rfl), ?_⟩⟩
    obtain ⟨ρ, hρ⟩ : ∃ ρ, b.eval = ρ := ⟨_, rfl⟩
    rw [hρ] at e0 ec ⊢
    unfold execOp; simp [go_sem, e0, ec]
  · intro b p h1 h2 h3 h4 h5
    obtain ⟨g, h4, h6⟩ := h4
    have r9 : slot b 9 = qv := h5 13 (qv) _ 9 rfl rfl
    have r10 : slot b 10 = rv := h5 14 (rv) _ 10 rfl rfl
    exact hQ b p h1 (h2.trans hsz) (fun s hs => h3 s (fun hm => hs (by simpa using hm))) r9 r10 h4.1
end Go.Proofs.YtmohiblgfmdkjaaDoor
