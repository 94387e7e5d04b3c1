/-
  Layer 4: the document's At, and the drawn region of Runs. (printed by genruns.py)
-/
import Derived.Test.YtfblhdomjnffcaaDoorGB
import Derived.Test.YtfblhdomjnffcaaDoorRmu
import Derived.Test.YtfblhdomjnffcaaDoorTrm
import Derived.Test.YtfblhdomjnffcaaDoorGF
namespace Go.Proofs.YtfblhdomjnffcaaDoor
open Go.RowKit Go.Bl
set_option linter.unusedVariables false

set_option maxRecDepth 100000 in
set_option maxHeartbeats 1000000 in
theorem rat_any (A : Nat → Prop) (w : World) (v : Value) (xs : List UInt8) (j : Nat) (hb : Bs A w v xs) (hl : xs.length ≤ 1000000) :
    Calls Tryd.prog 50 #[v, .int .i64 j] w fun e w' => e = .returned (.int .u8 ((cf xs j).toNat : Int)) ∧ Fr [] w w' := by
  have HB := Lib.hid hb
  obtain ⟨a, cap, rfl, h2, h3, -⟩ := hb
  unfold maxLen at h3
  by_cases hj : j < xs.length
  · have hji : ¬ (xs.length : Int) ≤ (j : Int) := by omega
    obtain ⟨b, off, rfl, hc⟩ := bs_cell HB.out j _ (get_cf hj)
    obtain ⟨y, hy⟩ : ∃ y, cf xs j = y := ⟨_, rfl⟩
    rw [hy] at hc ⊢
    obtain ⟨N, hN⟩ : ∃ N, xs.length = N := ⟨_, rfl⟩
    rw [hN] at hj hji h2 ⊢
    clear HB hN hy
    go_enter Tryd.func50, Tryd.ntmps50
    go_wp2
    go_ret
    exact ⟨rfl, Fr.refl _ _⟩
  · rw [cf_ge (by omega)]
    have hji : (xs.length : Int) ≤ (j : Int) := by omega
    go_enter Tryd.func50, Tryd.ntmps50
    go_wp2
    go_ret
    exact ⟨rfl, Fr.refl _ _⟩
set_option maxRecDepth 100000 in
theorem frame56 (a : Go.Act) (hs : a.tmps.size = 56) (hd : a.defers = []) : a = ⟨(slot a 0 :: slot a 1 :: slot a 2 :: slot a 3 :: slot a 4 :: slot a 5 :: slot a 6 :: slot a 7 :: slot a 8 :: slot a 9 :: slot a 10 :: slot a 11 :: slot a 12 :: slot a 13 :: slot a 14 :: slot a 15 :: slot a 16 :: slot a 17 :: slot a 18 :: slot a 19 :: slot a 20 :: slot a 21 :: slot a 22 :: slot a 23 :: slot a 24 :: slot a 25 :: slot a 26 :: slot a 27 :: slot a 28 :: slot a 29 :: slot a 30 :: slot a 31 :: slot a 32 :: slot a 33 :: slot a 34 :: slot a 35 :: slot a 36 :: slot a 37 :: slot a 38 :: slot a 39 :: slot a 40 :: slot a 41 :: slot a 42 :: slot a 43 :: slot a 44 :: slot a 45 :: slot a 46 :: slot a 47 :: slot a 48 :: slot a 49 :: slot a 50 :: slot a 51 :: slot a 52 :: slot a 53 :: slot a 54 :: slot a 55 :: []).toArray, []⟩ := frameX a 56 hs hd

noncomputable def runs_regR : Code := ((Tryd.f16.body.bind (findRegionC 10)).getD .skip)
set_option maxRecDepth 1000000 in
set_option maxHeartbeats 8000000 in
theorem runs_reg (w : World) (a : Go.Act) (hsz : a.tmps.size = 56) (sb so n sc pn pc i j : Nat) (pa : Option Addr) (ps : List UInt8) (d y : UInt8) (hp : Bs (fun _ => False) w (.slice pa pn pc) ps) (hpl : ps.length ≤ 1000) (hji : j ≤ i) (hin : i < n) (hn : n ≤ 1000000) (hy : w.cell? ⟨sb, so + (i - j), none⟩ = some (.int .u8 (y.toNat : Int))) (h8 : slot a 8 = .int .u8 (d.toNat : Int)) (h1 : slot a 1 = .slice pa pn pc) (h9 : slot a 9 = .int .i64 (j : Int)) (h0 : slot a 0 = .slice (some ⟨sb, so, none⟩) n sc) (h7 : slot a 7 = .int .i64 (i : Int)) (Q : Exit → Go.Act → World → Prop)
    (hQ : ∀ (b : Go.Act) (p : World), b.defers = a.defers → b.tmps.size = 56 → (∀ s, s ∉ ([38, 39, 40, 41, 42, 43, 44, 45, 46, 47, 48, 49, 8] : List Nat) → slot b s = slot a s) → slot b 8 = .int .u8 ((d ^^^ gmul (cf ps j) y).toNat : Int) → Fr [] w p → Q .normal b p) : Code.wp Tryd.prog runs_regR Q a w := by
  conv => arg 2; whnf
  refine wp_region_ghost (by kernel_rfl) (by kernel_rfl) [some 38, some 39, some 40, some 41, some 42, some 43, some 44, some 45, some 46, some 47, some 48, some 49, some 8] [3, 10] [.rd (.int .u8 (d.toNat : Int)) 2, .rd (.slice pa pn pc) 2, .rd (.int .i64 (j : Int)) 2, .st 0, .rd (.slice (some ⟨sb, so, none⟩) n sc) 2, .rd (.int .i64 (i : Int)) 2, .rd (.int .i64 (j : Int)) 2, .rd (.int .i64 ((i - j : Nat) : Int)) 2, .rd (.pointer (some ⟨sb, so + (i - j), none⟩)) 2, .rd (.int .u8 (y.toNat : Int)) 2, .st 1, .rd (.int .u8 ((d ^^^ gmul (cf ps j) y).toNat : Int)) 2, .rd (.int .u8 ((d ^^^ gmul (cf ps j) y).toNat : Int)) 2] (fun cj => if cj = 0 then (.int .u8 ((cf ps j).toNat : Int)) else if cj = 1 then (.int .u8 ((gmul (cf ps j) y).toNat : Int)) else undef) (fun s g p => Fr [] w p) (by kernel_rfl) (by rfl) (by rw [hsz]; rfl) (by kernel_rfl) (by kernel_rfl) (by decide) ?_ ⟨?_, ?_, ?_, ?_, ?_, ?_, ?_, ?_, ?_, ?_, ?_, ?_, ?_, trivial⟩ ?_
  · intro w1 hw1
    exact ⟨fun _ => undef, hw1⟩
  · refine ⟨⟨38, rfl⟩, .inl rfl, fun b p s g hs hlow hS h => ?_⟩
    have e0 := (show b.eval (.tmp 8) = .int .u8 (d.toNat : Int) from (h.un 12 8 (by kernel_rfl) rfl).trans h8)
    have ec : ∀ v, b.eval (.const v) = v := fun _ => rfl
    refine ⟨_, by simp only [List.getElem?_toArray, List.getElem?_cons_succ, List.getElem?_cons_zero]; rfl, .inl ⟨(wanted_none rfl), ?_⟩⟩
    obtain ⟨ρ, hρ⟩ : ∃ ρ, b.eval = ρ := ⟨_, rfl⟩
    rw [hρ] at e0 ec ⊢
    unfold execOp; simp [go_sem, e0, ec]
  · refine ⟨⟨39, rfl⟩, .inl rfl, fun b p s g hs hlow hS h => ?_⟩
    have e0 := (show b.eval (.tmp 1) = .slice pa pn pc from (h.old 1 (by decide)).trans h1)
    have ec : ∀ v, b.eval (.const v) = v := fun _ => rfl
    refine ⟨_, by simp only [List.getElem?_toArray, List.getElem?_cons_succ, List.getElem?_cons_zero]; rfl, .inl ⟨(wanted_none rfl), ?_⟩⟩
    obtain ⟨ρ, hρ⟩ : ∃ ρ, b.eval = ρ := ⟨_, rfl⟩
    rw [hρ] at e0 ec ⊢
    unfold execOp; simp [go_sem, e0, ec]
  · refine ⟨⟨40, rfl⟩, .inl rfl, fun b p s g hs hlow hS h => ?_⟩
    have e0 := (show b.eval (.tmp 9) = .int .i64 (j : Int) from (h.old 9 (by decide)).trans h9)
    have ec : ∀ v, b.eval (.const v) = v := fun _ => rfl
    refine ⟨_, by simp only [List.getElem?_toArray, List.getElem?_cons_succ, List.getElem?_cons_zero]; rfl, .inl ⟨(wanted_none rfl), ?_⟩⟩
    obtain ⟨ρ, hρ⟩ : ∃ ρ, b.eval = ρ := ⟨_, rfl⟩
    rw [hρ] at e0 ec ⊢
    unfold execOp; simp [go_sem, e0, ec]
  · refine ⟨rfl, .inl rfl, fun b p g hS h => ?_⟩
    have e0 := (show b.eval (.tmp 39) = .slice pa pn pc from h.rd 1 _ _ 39 (by kernel_rfl) rfl rfl)
    have e1 := (show b.eval (.tmp 40) = .int .i64 (j : Int) from h.rd 2 _ _ 40 (by kernel_rfl) rfl rfl)
    have hf := hS
    refine opV_func _ (by simp only [List.getElem?_toArray, List.getElem?_cons_succ, List.getElem?_cons_zero]; rfl) (wanted_none rfl) 50 _ _ rfl #[.slice pa pn pc, .int .i64 (j : Int)] (by simp only [List.map_toArray, List.map_cons, List.map_nil, e0, e1]) (by simp [go_sem]) ((rat_any (fun _ => False) p (.slice pa pn pc) ps j (hp.keep hf (by simp)) (by omega)).mono ?_)
    rintro e p' ⟨rfl, hf'⟩
    exact ⟨_, rfl, hf.trans hf', .inr rfl⟩
  · refine ⟨⟨42, rfl⟩, .inl rfl, fun b p s g hs hlow hS h => ?_⟩
    have e0 := (show b.eval (.tmp 0) = .slice (some ⟨sb, so, none⟩) n sc from (h.old 0 (by decide)).trans h0)
    have ec : ∀ v, b.eval (.const v) = v := fun _ => rfl
    refine ⟨_, by simp only [List.getElem?_toArray, List.getElem?_cons_succ, List.getElem?_cons_zero]; rfl, .inl ⟨(wanted_none rfl), ?_⟩⟩
    obtain ⟨ρ, hρ⟩ : ∃ ρ, b.eval = ρ := ⟨_, rfl⟩
    rw [hρ] at e0 ec ⊢
    unfold execOp; simp [go_sem, e0, ec]
  · refine ⟨⟨43, rfl⟩, .inl rfl, fun b p s g hs hlow hS h => ?_⟩
    have e0 := (show b.eval (.tmp 7) = .int .i64 (i : Int) from (h.old 7 (by decide)).trans h7)
    have ec : ∀ v, b.eval (.const v) = v := fun _ => rfl
    refine ⟨_, by simp only [List.getElem?_toArray, List.getElem?_cons_succ, List.getElem?_cons_zero]; rfl, .inl ⟨(wanted_none rfl), ?_⟩⟩
    obtain ⟨ρ, hρ⟩ : ∃ ρ, b.eval = ρ := ⟨_, rfl⟩
    rw [hρ] at e0 ec ⊢
    unfold execOp; simp [go_sem, e0, ec]
  · refine ⟨⟨44, rfl⟩, .inl rfl, fun b p s g hs hlow hS h => ?_⟩
    have e0 := (show b.eval (.tmp 9) = .int .i64 (j : Int) from (h.old 9 (by decide)).trans h9)
    have ec : ∀ v, b.eval (.const v) = v := fun _ => rfl
    refine ⟨_, by simp only [List.getElem?_toArray, List.getElem?_cons_succ, List.getElem?_cons_zero]; rfl, .inl ⟨(wanted_none rfl), ?_⟩⟩
    obtain ⟨ρ, hρ⟩ : ∃ ρ, b.eval = ρ := ⟨_, rfl⟩
    rw [hρ] at e0 ec ⊢
    unfold execOp; simp [go_sem, e0, ec]
  · refine ⟨⟨45, rfl⟩, .inl rfl, fun b p s g hs hlow hS h => ?_⟩
    have e0 := (show b.eval (.tmp 43) = .int .i64 (i : Int) from h.rd 5 _ _ 43 (by kernel_rfl) rfl rfl)
    have e1 := (show b.eval (.tmp 44) = .int .i64 (j : Int) from h.rd 6 _ _ 44 (by kernel_rfl) rfl rfl)
    have ec : ∀ v, b.eval (.const v) = v := fun _ => rfl
    refine ⟨_, by simp only [List.getElem?_toArray, List.getElem?_cons_succ, List.getElem?_cons_zero]; rfl, .inl ⟨(wanted_none rfl), ?_⟩⟩
    obtain ⟨ρ, hρ⟩ : ∃ ρ, b.eval = ρ := ⟨_, rfl⟩
    rw [hρ] at e0 e1 ec ⊢
    unfold execOp; simp [go_sem, e0, e1, ec, show IntKind.i64.wrap ((i : Int) - j) = ((i - j : Nat) : Int) by rw [IntKind.wrap_i64]; omega]
  · refine ⟨⟨46, rfl⟩, .inl rfl, fun b p s g hs hlow hS h => ?_⟩
    have e0 := (show b.eval (.tmp 42) = .slice (some ⟨sb, so, none⟩) n sc from h.rd 4 _ _ 42 (by kernel_rfl) rfl rfl)
    have e1 := (show b.eval (.tmp 45) = .int .i64 ((i - j : Nat) : Int) from h.rd 7 _ _ 45 (by kernel_rfl) rfl rfl)
    have ec : ∀ v, b.eval (.const v) = v := fun _ => rfl
    refine ⟨_, by simp only [List.getElem?_toArray, List.getElem?_cons_succ, List.getElem?_cons_zero]; rfl, .inl ⟨(wanted_none rfl), ?_⟩⟩
    obtain ⟨ρ, hρ⟩ : ∃ ρ, b.eval = ρ := ⟨_, rfl⟩
    rw [hρ] at e0 e1 ec ⊢
    unfold execOp; simp [go_sem, e0, e1, ec, show ((i - j : Nat) : Int) < n by omega, show i - j < n by omega]
  · refine ⟨⟨47, rfl⟩, .inl rfl, fun b p s g hs hlow hS h => ?_⟩
    have e0 := (show b.eval (.tmp 46) = .pointer (some ⟨sb, so + (i - j), none⟩) from h.rd 8 _ _ 46 (by kernel_rfl) rfl rfl)
    have hf := hS
    have c0 := (show p.cell? ⟨sb, so + (i - j), none⟩ = some (.int .u8 (y.toNat : Int)) from (cell_mono hf hy))
    have ec : ∀ v, b.eval (.const v) = v := fun _ => rfl
    refine ⟨_, by simp only [List.getElem?_toArray, List.getElem?_cons_succ, List.getElem?_cons_zero]; rfl, .inl ⟨(wanted_none rfl), ?_⟩⟩
    obtain ⟨ρ, hρ⟩ : ∃ ρ, b.eval = ρ := ⟨_, rfl⟩
    rw [hρ] at e0 ec ⊢
    unfold execOp; simp [go_sem, e0, ec, c0]
  · refine ⟨rfl, .inr ⟨3, rfl, by kernel_rfl⟩, fun b p g hS h => ?_⟩
    have e0 := (show b.eval (.tmp 41) = .int .u8 ((cf ps j).toNat : Int) from h.st 3 _ 41 (by kernel_rfl) rfl rfl)
    have e1 := (show b.eval (.tmp 47) = .int .u8 (y.toNat : Int) from h.rd 9 _ _ 47 (by kernel_rfl) rfl rfl)
    have hf := hS
    refine opV_func _ (by simp only [List.getElem?_toArray, List.getElem?_cons_succ, List.getElem?_cons_zero]; rfl) (wanted_none rfl) 49 _ _ rfl #[.int .u8 ((cf ps j).toNat : Int), .int .u8 (y.toNat : Int)] (by simp only [List.map_toArray, List.map_cons, List.map_nil, e0, e1]) (by simp [go_sem]) ((rmul_any p (cf ps j) y).mono ?_)
    rintro e p' ⟨rfl, hf'⟩
    exact ⟨_, rfl, hf.trans hf', .inr rfl⟩
  · refine ⟨⟨49, rfl⟩, .inl rfl, fun b p s g hs hlow hS h => ?_⟩
    have e0 := (show b.eval (.tmp 38) = .int .u8 (d.toNat : Int) from h.rd 0 _ _ 38 (by kernel_rfl) rfl rfl)
    have e1 := (show b.eval (.tmp 48) = .int .u8 ((gmul (cf ps j) y).toNat : Int) from h.st 10 _ 48 (by kernel_rfl) rfl rfl)
    have ec : ∀ v, b.eval (.const v) = v := fun _ => rfl
    refine ⟨_, by simp only [List.getElem?_toArray, List.getElem?_cons_succ, List.getElem?_cons_zero]; rfl, .inl ⟨(wanted_none rfl), ?_⟩⟩
    obtain ⟨ρ, hρ⟩ : ∃ ρ, b.eval = ρ := ⟨_, rfl⟩
    rw [hρ] at e0 e1 ec ⊢
    unfold execOp; simp [go_sem, e0, e1, ec, u8_xor_u]
  · refine ⟨⟨8, rfl⟩, .inl rfl, fun b p s g hs hlow hS h => ?_⟩
    have e0 := (show b.eval (.tmp 49) = .int .u8 ((d ^^^ gmul (cf ps j) y).toNat : Int) from h.rd 11 _ _ 49 (by kernel_rfl) rfl rfl)
    have ec : ∀ v, b.eval (.const v) = v := fun _ => rfl
    refine ⟨_, by simp only [List.getElem?_toArray, List.getElem?_cons_succ, List.getElem?_cons_zero]; rfl, .inl ⟨(wanted_none rfl), ?_⟩⟩
    obtain ⟨ρ, hρ⟩ : ∃ ρ, b.eval = ρ := ⟨_, rfl⟩
    rw [hρ] at e0 ec ⊢
    unfold execOp; simp [go_sem, e0, ec]
  · intro b p h1 h2 h3 h4 h5
    obtain ⟨g, h4, h6⟩ := h4
    have r8 : slot b 8 = .int .u8 ((d ^^^ gmul (cf ps j) y).toNat : Int) := h5 12 (.int .u8 ((d ^^^ gmul (cf ps j) y).toNat : Int)) _ 8 rfl rfl
    exact hQ b p h1 (h2.trans hsz) (fun s hs => h3 s (fun hm => hs (by simpa using hm))) r8 h4
end Go.Proofs.YtfblhdomjnffcaaDoor
