/-
  The law LinesLetters: its drawn region. (printed by genlll.py)
-/
import Derived.Test.YtmohiblgfmdkjaaDoorGB
import Derived.Test.YtmohiblgfmdkjaaDoorOwb
import Derived.Test.YtmohiblgfmdkjaaDoorGD
import Derived.Test.YtmohiblgfmdkjaaDoorRec
import Derived.Test.YtmohiblgfmdkjaaDoorRows
namespace Go.Proofs.YtmohiblgfmdkjaaDoor
open Go.RowKit Go.Bl
set_option linter.unusedVariables false
theorem range_keep {w p : World} {b o : Nat} {cs : List Value} (h : w.rangeAt b o cs) (hf : Fr [] w p) : p.rangeAt b o cs := fun j v hv => cell_keep hf (by simp) (h j v hv)
theorem run_ldk {P : Program} {ρ : Operand → Value} {o : Oper} {w : World} {ty : TypeId} {d : TypeDesc} {x : Operand} {b off : Nat} {c : List Value} (ho : o.op = .load ty x) (hx : ρ x = .pointer (some ⟨b, off, none⟩)) (hc : w.rangeAt b off c) (hu : P.underlying ty = some d) (hd : d.isRow = true) (hi : (P.info? ty).map (·.size) = some c.length) :
    (execOp ρ o).run P w = .ok (.value (.agg c.toArray)) w := by
  have := run_loadAt_mid (P := P) w b off ty c d hc hu hd hi
  unfold execOp
  simp only [ho, hx, Sem.run_bind, this, Result.andThen_ok, Sem.run_pure]
set_option maxRecDepth 100000 in
theorem frame30 (a : Go.Act) (hs : a.tmps.size = 30) (hd : a.defers = []) : a = ⟨(slot a 0 :: slot a 1 :: slot a 2 :: slot a 3 :: slot a 4 :: slot a 5 :: slot a 6 :: slot a 7 :: slot a 8 :: slot a 9 :: slot a 10 :: slot a 11 :: slot a 12 :: slot a 13 :: slot a 14 :: slot a 15 :: slot a 16 :: slot a 17 :: slot a 18 :: slot a 19 :: slot a 20 :: slot a 21 :: slot a 22 :: slot a 23 :: slot a 24 :: slot a 25 :: slot a 26 :: slot a 27 :: slot a 28 :: slot a 29 :: []).toArray, []⟩ := frameX a 30 hs hd

noncomputable def lll_regR : Code := ((Tryd.f4.body.bind (findRegionC 5)).getD .skip)
set_option maxRecDepth 1000000 in
set_option maxHeartbeats 8000000 in
theorem lll_reg (w : World) (a : Go.Act) (hsz : a.tmps.size = 30) (lb ab rb : Nat) (L A : List Value) (kd er n : Int) (SL SR : ByteArray) (Fo : Value → Prop) (hL : ∀ p, Fr [] w p → Calls Tryd.prog 12 #[.agg L.toArray] p fun e w' => e = .returned (.string SL) ∧ Fr [] p w') (hO : ∀ p, Fr [] w p → Calls Tryd.prog 14 #[.agg L.toArray] p fun e w' => ∃ u, e = .returned u ∧ Fo u ∧ Fr [] p w') (hD : ∀ p, Fr [] w p → ∀ u, Fo u → Calls Tryd.prog 13 #[u] p fun e w' => e = .returned (.string SL) ∧ Fr [] p w') (hR : ∀ p, Fr [] w p → Calls Tryd.prog 15 #[.agg A.toArray, .agg ([.int .i64 er, .int .i64 n] : List Value).toArray] p fun e w' => e = .returned (.string SR) ∧ Fr [] p w') (hE : ∀ p, Fr [] w p → Calls Tryd.prog 16 #[.int .i64 kd, .int .i64 er, .int .i64 n] p fun e w' => e = .returned (.string SR) ∧ Fr [] p w')
 (hsL : (Tryd.prog.info? 40).map (·.size) = some L.length) (hsA : (Tryd.prog.info? 47).map (·.size) = some A.length) (hbL : w.rangeAt lb 0 L) (hbA : w.rangeAt ab 0 A) (hbR : w.rangeAt rb 0 [.int .i64 er, .int .i64 n]) (cA : w.cell? ⟨ab, 0, none⟩ = some (.int .i64 kd)) (cR : w.cell? ⟨rb, 0, none⟩ = some (.int .i64 er)) (cN : w.cell? ⟨rb, 1, none⟩ = some (.int .i64 n)) (h3 : slot a 3 = .pointer (some ⟨lb, 0, none⟩)) (h4 : slot a 4 = .pointer (some ⟨ab, 0, none⟩)) (h5 : slot a 5 = .pointer (some ⟨rb, 0, none⟩)) (Q : Exit → Go.Act → World → Prop)
    (hQ : ∀ (b : Go.Act) (p : World), b.defers = a.defers → b.tmps.size = 30 → (∀ s, s ∉ ([11, 12, 13, 14, 15, 16, 17, 18, 19, 20, 21, 22, 23, 24, 25, 26, 27, 28, 29, 6] : List Nat) → slot b s = slot a s) → slot b 6 = .bool true → Fr [] w p → Q .normal b p) : Code.wp Tryd.prog lll_regR Q a w := by
  conv => arg 2; whnf
  refine wp_region_ghost (by kernel_rfl) (by kernel_rfl) [some 11, some 12, some 13, some 14, some 15, some 16, some 17, some 18, some 19, some 20, some 21, some 22, some 23, some 24, some 25, some 26, some 27, some 28, some 29, some 6] [1, 3, 4, 9, 16] [.rd (.agg L.toArray) 5, .st 0, .rd (.agg L.toArray) 5, .gh 1, .st 2, .rd (.bool true) 5, .rd (.bool true) 5, .rd (.agg A.toArray) 5, .rd (.agg ([.int .i64 er, .int .i64 n] : List Value).toArray) 5, .st 3, .rd (.pointer (some ⟨ab, 0, none⟩)) 5, .rd (.int .i64 kd) 5, .rd (.pointer (some ⟨rb, 0, none⟩)) 5, .rd (.int .i64 er) 5, .rd (.pointer (some ⟨rb, 1, none⟩)) 5, .rd (.int .i64 n) 5, .st 4, .rd (.bool true) 5, .rd (.bool true) 5, .rd (.bool true) 5] (fun cj => if cj = 0 then (.string SL) else if cj = 2 then (.string SL) else if cj = 3 then (.string SR) else if cj = 4 then (.string SR) else undef) (fun s g p => Fr [] w p ∧ (1 < s → Fo (g 1))) (by kernel_rfl) (by rfl) (by rw [hsz]; rfl) (by kernel_rfl) (by kernel_rfl) (by decide) ?_ ⟨?_, ?_, ?_, ?_, ?_, ?_, ?_, ?_, ?_, ?_, ?_, ?_, ?_, ?_, ?_, ?_, ?_, ?_, ?_, ?_, trivial⟩ ?_
  · intro w1 hw1
    exact ⟨fun _ => undef, ⟨hw1, fun hk => absurd hk (by decide)⟩⟩
  · refine ⟨⟨11, rfl⟩, .inl rfl, fun b p s g hs hlow hS h => ?_⟩
    have e0 := (show b.eval (.tmp 3) = .pointer (some ⟨lb, 0, none⟩) from (h.old 3 (by decide)).trans h3)
    obtain ⟨hf, q0⟩ := hS
    exact ⟨_, by simp only [List.getElem?_toArray, List.getElem?_cons_succ, List.getElem?_cons_zero]; rfl, .inl ⟨(wanted_none rfl), run_ldk rfl e0 (range_keep hbL hf) Tryd.underlying40 rfl (by first | exact hsL | exact hsA | kernel_rfl)⟩⟩
  · refine ⟨rfl, .inl rfl, fun b p g hS h => ?_⟩
    have e0 := (show b.eval (.tmp 11) = .agg L.toArray from h.rd 0 _ _ 11 (by kernel_rfl) rfl rfl)
    obtain ⟨hf, q0⟩ := hS
    refine opV_func _ (by simp only [List.getElem?_toArray, List.getElem?_cons_succ, List.getElem?_cons_zero]; rfl) (wanted_none rfl) 12 _ _ rfl #[.agg L.toArray] (by simp only [List.map_toArray, List.map_cons, List.map_nil, e0]) (by simp [go_sem]) ((hL p hf).mono ?_)
    rintro e p' ⟨rfl, hf'⟩
    exact ⟨_, rfl, ⟨hf.trans hf', fun hk => absurd hk (by decide)⟩, .inr rfl⟩
  · refine ⟨⟨13, rfl⟩, .inl rfl, fun b p s g hs hlow hS h => ?_⟩
    have e0 := (show b.eval (.tmp 3) = .pointer (some ⟨lb, 0, none⟩) from (h.old 3 (by decide)).trans h3)
    obtain ⟨hf, q0⟩ := hS
    exact ⟨_, by simp only [List.getElem?_toArray, List.getElem?_cons_succ, List.getElem?_cons_zero]; rfl, .inl ⟨(wanted_none rfl), run_ldk rfl e0 (range_keep hbL hf) Tryd.underlying40 rfl (by first | exact hsL | exact hsA | kernel_rfl)⟩⟩
  · refine ⟨rfl, .inr ⟨1, rfl, by kernel_rfl⟩, fun b p g hS h => ?_⟩
    have e0 := (show b.eval (.tmp 13) = .agg L.toArray from h.rd 2 _ _ 13 (by kernel_rfl) rfl rfl)
    obtain ⟨hf, q0⟩ := hS
    refine opV_func _ (by simp only [List.getElem?_toArray, List.getElem?_cons_succ, List.getElem?_cons_zero]; rfl) (wanted_none rfl) 14 _ _ rfl #[.agg L.toArray] (by simp only [List.map_toArray, List.map_cons, List.map_nil, e0]) (by simp [go_sem]) ((hO p hf).mono ?_)
    rintro e p' ⟨u, rfl, ho, hf'⟩
    exact ⟨_, rfl, ⟨hf.trans hf', fun _ => ho⟩⟩
  · refine ⟨rfl, .inr ⟨3, rfl, by kernel_rfl⟩, fun b p g hS h => ?_⟩
    have e0 := (show b.eval (.tmp 14) = g 1 from h.gh 3 _ 14 (by kernel_rfl) rfl rfl)
    obtain ⟨hf, q0⟩ := hS
    refine opV_func _ (by simp only [List.getElem?_toArray, List.getElem?_cons_succ, List.getElem?_cons_zero]; rfl) (wanted_none rfl) 13 _ _ rfl #[g 1] (by simp only [List.map_toArray, List.map_cons, List.map_nil, e0]) (by simp [go_sem]) ((hD p hf (g 1) (q0 (by decide))).mono ?_)
    rintro e p' ⟨rfl, hf'⟩
    exact ⟨_, rfl, ⟨hf.trans hf', fun _ => (q0 (by decide))⟩, .inr rfl⟩
  · refine ⟨⟨16, rfl⟩, .inl rfl, fun b p s g hs hlow hS h => ?_⟩
    have e0 := (show b.eval (.tmp 12) = .string SL from h.st 1 _ 12 (by kernel_rfl) rfl rfl)
    have e1 := (show b.eval (.tmp 15) = .string SL from h.st 4 _ 15 (by kernel_rfl) rfl rfl)
    have ec : ∀ v, b.eval (.const v) = v := fun _ => rfl
    refine ⟨_, by simp only [List.getElem?_toArray, List.getElem?_cons_succ, List.getElem?_cons_zero]; rfl, .inl ⟨(wanted_none rfl), ?_⟩⟩
    obtain ⟨ρ, hρ⟩ : ∃ ρ, b.eval = ρ := ⟨_, rfl⟩
    rw [hρ] at e0 e1 ec ⊢
    unfold execOp; simp [go_sem, e0, e1, ec]
  · refine ⟨⟨17, rfl⟩, .inl rfl, fun b p s g hs hlow hS h => ?_⟩
    have e0 := (show b.eval (.tmp 16) = .bool true from h.rd 5 _ _ 16 (by kernel_rfl) rfl rfl)
    have ec : ∀ v, b.eval (.const v) = v := fun _ => rfl
    refine ⟨_, by simp only [List.getElem?_toArray, List.getElem?_cons_succ, List.getElem?_cons_zero]; rfl, .inl ⟨(wanted_none rfl), ?_⟩⟩
    obtain ⟨ρ, hρ⟩ : ∃ ρ, b.eval = ρ := ⟨_, rfl⟩
    rw [hρ] at e0 ec ⊢
    unfold execOp; simp [go_sem, e0, ec]
  · refine ⟨⟨18, rfl⟩, .inl rfl, fun b p s g hs hlow hS h => ?_⟩
    have e0 := (show b.eval (.tmp 4) = .pointer (some ⟨ab, 0, none⟩) from (h.old 4 (by decide)).trans h4)
    obtain ⟨hf, q0⟩ := hS
    exact ⟨_, by simp only [List.getElem?_toArray, List.getElem?_cons_succ, List.getElem?_cons_zero]; rfl, .inl ⟨(wanted_some 6 true 17 rfl (by simp only [List.getElem?_toArray, List.getElem?_cons_succ, List.getElem?_cons_zero]; rfl) (by rw [h.size, hsz]; decide) (h.rd 6 _ _ 17 (by kernel_rfl) rfl rfl)), run_ldk rfl e0 (range_keep hbA hf) Tryd.underlying47 rfl (by first | exact hsL | exact hsA | kernel_rfl)⟩⟩
  · refine ⟨⟨19, rfl⟩, .inl rfl, fun b p s g hs hlow hS h => ?_⟩
    have e0 := (show b.eval (.tmp 5) = .pointer (some ⟨rb, 0, none⟩) from (h.old 5 (by decide)).trans h5)
    obtain ⟨hf, q0⟩ := hS
    exact ⟨_, by simp only [List.getElem?_toArray, List.getElem?_cons_succ, List.getElem?_cons_zero]; rfl, .inl ⟨(wanted_some 6 true 17 rfl (by simp only [List.getElem?_toArray, List.getElem?_cons_succ, List.getElem?_cons_zero]; rfl) (by rw [h.size, hsz]; decide) (h.rd 6 _ _ 17 (by kernel_rfl) rfl rfl)), run_ldk rfl e0 (range_keep hbR hf) Tryd.underlying49 rfl (by first | exact hsL | exact hsA | kernel_rfl)⟩⟩
  · refine ⟨rfl, .inr ⟨4, rfl, by kernel_rfl⟩, fun b p g hS h => ?_⟩
    have e0 := (show b.eval (.tmp 18) = .agg A.toArray from h.rd 7 _ _ 18 (by kernel_rfl) rfl rfl)
    have e1 := (show b.eval (.tmp 19) = .agg ([.int .i64 er, .int .i64 n] : List Value).toArray from h.rd 8 _ _ 19 (by kernel_rfl) rfl rfl)
    obtain ⟨hf, q0⟩ := hS
    refine opV_func _ (by simp only [List.getElem?_toArray, List.getElem?_cons_succ, List.getElem?_cons_zero]; rfl) (wanted_some 6 true 17 rfl (by simp only [List.getElem?_toArray, List.getElem?_cons_succ, List.getElem?_cons_zero]; rfl) (by rw [h.size, hsz]; decide) (h.rd 6 _ _ 17 (by kernel_rfl) rfl rfl)) 15 _ _ rfl #[.agg A.toArray, .agg ([.int .i64 er, .int .i64 n] : List Value).toArray] (by simp only [List.map_toArray, List.map_cons, List.map_nil, e0, e1]) (by simp [go_sem]) ((hR p hf).mono ?_)
    rintro e p' ⟨rfl, hf'⟩
    exact ⟨_, rfl, ⟨hf.trans hf', fun _ => (q0 (by decide))⟩, .inr rfl⟩
  · refine ⟨⟨21, rfl⟩, .inl rfl, fun b p s g hs hlow hS h => ?_⟩
    have e0 := (show b.eval (.tmp 4) = .pointer (some ⟨ab, 0, none⟩) from (h.old 4 (by decide)).trans h4)
    have ec : ∀ v, b.eval (.const v) = v := fun _ => rfl
    refine ⟨_, by simp only [List.getElem?_toArray, List.getElem?_cons_succ, List.getElem?_cons_zero]; rfl, .inl ⟨(wanted_some 6 true 17 rfl (by simp only [List.getElem?_toArray, List.getElem?_cons_succ, List.getElem?_cons_zero]; rfl) (by rw [h.size, hsz]; decide) (h.rd 6 _ _ 17 (by kernel_rfl) rfl rfl)), ?_⟩⟩
    obtain ⟨ρ, hρ⟩ : ∃ ρ, b.eval = ρ := ⟨_, rfl⟩
    rw [hρ] at e0 ec ⊢
    unfold execOp; simp [go_sem, e0, ec]
  · refine ⟨⟨22, rfl⟩, .inl rfl, fun b p s g hs hlow hS h => ?_⟩
    have e0 := (show b.eval (.tmp 21) = .pointer (some ⟨ab, 0, none⟩) from h.rd 10 _ _ 21 (by kernel_rfl) rfl rfl)
    obtain ⟨hf, q0⟩ := hS
    have c0 := (show p.cell? ⟨ab, 0, none⟩ = some (.int .i64 kd) from (cell_keep hf (by simp) cA))
    have ec : ∀ v, b.eval (.const v) = v := fun _ => rfl
    refine ⟨_, by simp only [List.getElem?_toArray, List.getElem?_cons_succ, List.getElem?_cons_zero]; rfl, .inl ⟨(wanted_some 6 true 17 rfl (by simp only [List.getElem?_toArray, List.getElem?_cons_succ, List.getElem?_cons_zero]; rfl) (by rw [h.size, hsz]; decide) (h.rd 6 _ _ 17 (by kernel_rfl) rfl rfl)), ?_⟩⟩
    obtain ⟨ρ, hρ⟩ : ∃ ρ, b.eval = ρ := ⟨_, rfl⟩
    rw [hρ] at e0 ec ⊢
    unfold execOp; simp [go_sem, e0, ec, c0]
  · refine ⟨⟨23, rfl⟩, .inl rfl, fun b p s g hs hlow hS h => ?_⟩
    have e0 := (show b.eval (.tmp 5) = .pointer (some ⟨rb, 0, none⟩) from (h.old 5 (by decide)).trans h5)
    have ec : ∀ v, b.eval (.const v) = v := fun _ => rfl
    refine ⟨_, by simp only [List.getElem?_toArray, List.getElem?_cons_succ, List.getElem?_cons_zero]; rfl, .inl ⟨(wanted_some 6 true 17 rfl (by simp only [List.getElem?_toArray, List.getElem?_cons_succ, List.getElem?_cons_zero]; rfl) (by rw [h.size, hsz]; decide) (h.rd 6 _ _ 17 (by kernel_rfl) rfl rfl)), ?_⟩⟩
    obtain ⟨ρ, hρ⟩ : ∃ ρ, b.eval = ρ := ⟨_, rfl⟩
    rw [hρ] at e0 ec ⊢
    unfold execOp; simp [go_sem, e0, ec]
  · refine ⟨⟨24, rfl⟩, .inl rfl, fun b p s g hs hlow hS h => ?_⟩
    have e0 := (show b.eval (.tmp 23) = .pointer (some ⟨rb, 0, none⟩) from h.rd 12 _ _ 23 (by kernel_rfl) rfl rfl)
    obtain ⟨hf, q0⟩ := hS
    have c0 := (show p.cell? ⟨rb, 0, none⟩ = some (.int .i64 er) from (cell_keep hf (by simp) cR))
    have ec : ∀ v, b.eval (.const v) = v := fun _ => rfl
    refine ⟨_, by simp only [List.getElem?_toArray, List.getElem?_cons_succ, List.getElem?_cons_zero]; rfl, .inl ⟨(wanted_some 6 true 17 rfl (by simp only [List.getElem?_toArray, List.getElem?_cons_succ, List.getElem?_cons_zero]; rfl) (by rw [h.size, hsz]; decide) (h.rd 6 _ _ 17 (by kernel_rfl) rfl rfl)), ?_⟩⟩
    obtain ⟨ρ, hρ⟩ : ∃ ρ, b.eval = ρ := ⟨_, rfl⟩
    rw [hρ] at e0 ec ⊢
    unfold execOp; simp [go_sem, e0, ec, c0]
  · refine ⟨⟨25, rfl⟩, .inl rfl, fun b p s g hs hlow hS h => ?_⟩
    have e0 := (show b.eval (.tmp 5) = .pointer (some ⟨rb, 0, none⟩) from (h.old 5 (by decide)).trans h5)
    have ec : ∀ v, b.eval (.const v) = v := fun _ => rfl
    refine ⟨_, by simp only [List.getElem?_toArray, List.getElem?_cons_succ, List.getElem?_cons_zero]; rfl, .inl ⟨(wanted_some 6 true 17 rfl (by simp only [List.getElem?_toArray, List.getElem?_cons_succ, List.getElem?_cons_zero]; rfl) (by rw [h.size, hsz]; decide) (h.rd 6 _ _ 17 (by kernel_rfl) rfl rfl)), ?_⟩⟩
    obtain ⟨ρ, hρ⟩ : ∃ ρ, b.eval = ρ := ⟨_, rfl⟩
    rw [hρ] at e0 ec ⊢
    unfold execOp; simp [go_sem, e0, ec]
  · refine ⟨⟨26, rfl⟩, .inl rfl, fun b p s g hs hlow hS h => ?_⟩
    have e0 := (show b.eval (.tmp 25) = .pointer (some ⟨rb, 1, none⟩) from h.rd 14 _ _ 25 (by kernel_rfl) rfl rfl)
    obtain ⟨hf, q0⟩ := hS
    have c0 := (show p.cell? ⟨rb, 1, none⟩ = some (.int .i64 n) from (cell_keep hf (by simp) cN))
    have ec : ∀ v, b.eval (.const v) = v := fun _ => rfl
    refine ⟨_, by simp only [List.getElem?_toArray, List.getElem?_cons_succ, List.getElem?_cons_zero]; rfl, .inl ⟨(wanted_some 6 true 17 rfl (by simp only [List.getElem?_toArray, List.getElem?_cons_succ, List.getElem?_cons_zero]; rfl) (by rw [h.size, hsz]; decide) (h.rd 6 _ _ 17 (by kernel_rfl) rfl rfl)), ?_⟩⟩
    obtain ⟨ρ, hρ⟩ : ∃ ρ, b.eval = ρ := ⟨_, rfl⟩
    rw [hρ] at e0 ec ⊢
    unfold execOp; simp [go_sem, e0, ec, c0]
  · refine ⟨rfl, .inr ⟨9, rfl, by kernel_rfl⟩, fun b p g hS h => ?_⟩
    have e0 := (show b.eval (.tmp 22) = .int .i64 kd from h.rd 11 _ _ 22 (by kernel_rfl) rfl rfl)
    have e1 := (show b.eval (.tmp 24) = .int .i64 er from h.rd 13 _ _ 24 (by kernel_rfl) rfl rfl)
    have e2 := (show b.eval (.tmp 26) = .int .i64 n from h.rd 15 _ _ 26 (by kernel_rfl) rfl rfl)
    obtain ⟨hf, q0⟩ := hS
    refine opV_func _ (by simp only [List.getElem?_toArray, List.getElem?_cons_succ, List.getElem?_cons_zero]; rfl) (wanted_some 6 true 17 rfl (by simp only [List.getElem?_toArray, List.getElem?_cons_succ, List.getElem?_cons_zero]; rfl) (by rw [h.size, hsz]; decide) (h.rd 6 _ _ 17 (by kernel_rfl) rfl rfl)) 16 _ _ rfl #[.int .i64 kd, .int .i64 er, .int .i64 n] (by simp only [List.map_toArray, List.map_cons, List.map_nil, e0, e1, e2]) (by simp [go_sem]) ((hE p hf).mono ?_)
    rintro e p' ⟨rfl, hf'⟩
    exact ⟨_, rfl, ⟨hf.trans hf', fun _ => (q0 (by decide))⟩, .inr rfl⟩
  · refine ⟨⟨28, rfl⟩, .inl rfl, fun b p s g hs hlow hS h => ?_⟩
    have e0 := (show b.eval (.tmp 20) = .string SR from h.st 9 _ 20 (by kernel_rfl) rfl rfl)
    have e1 := (show b.eval (.tmp 27) = .string SR from h.st 16 _ 27 (by kernel_rfl) rfl rfl)
    have ec : ∀ v, b.eval (.const v) = v := fun _ => rfl
    refine ⟨_, by simp only [List.getElem?_toArray, List.getElem?_cons_succ, List.getElem?_cons_zero]; rfl, .inl ⟨(wanted_some 6 true 17 rfl (by simp only [List.getElem?_toArray, List.getElem?_cons_succ, List.getElem?_cons_zero]; rfl) (by rw [h.size, hsz]; decide) (h.rd 6 _ _ 17 (by kernel_rfl) rfl rfl)), ?_⟩⟩
    obtain ⟨ρ, hρ⟩ : ∃ ρ, b.eval = ρ := ⟨_, rfl⟩
    rw [hρ] at e0 e1 ec ⊢
    unfold execOp; simp [go_sem, e0, e1, ec]
  · refine ⟨⟨29, rfl⟩, .inl rfl, fun b p s g hs hlow hS h => ?_⟩
    have e0 := (show b.eval (.tmp 17) = .bool true from h.rd 6 _ _ 17 (by kernel_rfl) rfl rfl)
    have e1 := (show b.eval (.tmp 28) = .bool true from h.rd 17 _ _ 28 (by kernel_rfl) rfl rfl)
    have ec : ∀ v, b.eval (.const v) = v := fun _ => rfl
    refine ⟨_, by simp only [List.getElem?_toArray, List.getElem?_cons_succ, List.getElem?_cons_zero]; rfl, .inl ⟨(wanted_none rfl), ?_⟩⟩
    obtain ⟨ρ, hρ⟩ : ∃ ρ, b.eval = ρ := ⟨_, rfl⟩
    rw [hρ] at e0 e1 ec ⊢
    unfold execOp; simp [go_sem, e0, e1, ec]
  · refine ⟨⟨6, rfl⟩, .inl rfl, fun b p s g hs hlow hS h => ?_⟩
    have e0 := (show b.eval (.tmp 29) = .bool true from h.rd 18 _ _ 29 (by kernel_rfl) rfl rfl)
    have ec : ∀ v, b.eval (.const v) = v := fun _ => rfl
    refine ⟨_, by simp only [List.getElem?_toArray, List.getElem?_cons_succ, List.getElem?_cons_zero]; rfl, .inl ⟨(wanted_none rfl), ?_⟩⟩
    obtain ⟨ρ, hρ⟩ : ∃ ρ, b.eval = ρ := ⟨_, rfl⟩
    rw [hρ] at e0 ec ⊢
    unfold execOp; simp [go_sem, e0, ec]
  · intro b p h1 h2 h3 h4 h5
    obtain ⟨g, h4, h6⟩ := h4
    have r6 : slot b 6 = .bool true := h5 19 (.bool true) _ 6 rfl rfl
    exact hQ b p h1 (h2.trans hsz) (fun s hs => h3 s (fun hm => hs (by simpa using hm))) r6 h4.1
end Go.Proofs.YtmohiblgfmdkjaaDoor
