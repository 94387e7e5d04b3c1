/-
  The law LocateErasures: its drawn region. (printed by genler.py)
-/
import Derived.Test.YtfblhdomjnffcaaDoorGB
import Derived.Test.YtfblhdomjnffcaaDoorStr
import Derived.Test.YtfblhdomjnffcaaDoorGD
import Derived.Deep.MidRow
namespace Go.Proofs.YtfblhdomjnffcaaDoor
open Go.RowKit Go.Bl
set_option linter.unusedVariables false
theorem run_aggO {P : Program} {ρ : Operand → Value} {o : Oper} {w : World} {ty te : TypeId} {d : TypeDesc} {fz : Nat × Nat} (x : Operand) (ho : o.op = .load ty x) (bx : Nat) (c : Array Value) (hx : ρ x = .pointer (some ⟨bx, 0, none⟩)) (hc : At w bx (.cells c te fz)) (hu : P.underlying ty = some d) (hd : d.isRow = true) (hi : (P.info? ty).map (·.size) = some c.size) :
    (execOp ρ o).run P w = .ok (.value (.agg c)) w := by
  have hr : w.rangeAt bx 0 c.toList := fun j v hj => by rw [Nat.zero_add, hc.cell]; simpa using hj
  have := run_loadAt_mid (P := P) w bx 0 ty c.toList d hr hu hd (by simpa using hi)
  unfold execOp
  simp only [ho, hx, Sem.run_bind, this, Result.andThen_ok, Sem.run_pure]
set_option maxRecDepth 100000 in
theorem frame61 (a : Go.Act) (hs : a.tmps.size = 61) (hd : a.defers = []) : a = ⟨(slot a 0 :: slot a 1 :: slot a 2 :: slot a 3 :: slot a 4 :: slot a 5 :: slot a 6 :: slot a 7 :: slot a 8 :: slot a 9 :: slot a 10 :: slot a 11 :: slot a 12 :: slot a 13 :: slot a 14 :: slot a 15 :: slot a 16 :: slot a 17 :: slot a 18 :: slot a 19 :: slot a 20 :: slot a 21 :: slot a 22 :: slot a 23 :: slot a 24 :: slot a 25 :: slot a 26 :: slot a 27 :: slot a 28 :: slot a 29 :: slot a 30 :: slot a 31 :: slot a 32 :: slot a 33 :: slot a 34 :: slot a 35 :: slot a 36 :: slot a 37 :: slot a 38 :: slot a 39 :: slot a 40 :: slot a 41 :: slot a 42 :: slot a 43 :: slot a 44 :: slot a 45 :: slot a 46 :: slot a 47 :: slot a 48 :: slot a 49 :: slot a 50 :: slot a 51 :: slot a 52 :: slot a 53 :: slot a 54 :: slot a 55 :: slot a 56 :: slot a 57 :: slot a 58 :: slot a 59 :: slot a 60 :: []).toArray, []⟩ := frameX a 61 hs hd

noncomputable def lers_regR : Code := ((Tryd.f4.body.bind (findRegionC 10)).getD .skip)
set_option maxRecDepth 1000000 in
set_option maxHeartbeats 8000000 in
theorem lers_reg (w : World) (a : Go.Act) (hsz : a.tmps.size = 61) (ab : Nat) (SC : Array Value) (uv vv : Value) (row : List UInt8) (S : ByteArray) (hS : (⟨row.toArray⟩ : ByteArray) = S) (hA : At w ab (.cells SC 32 (0, 0))) (hcs : SC.size = 32) (hfor : ∀ p, Fr [] w p → Calls Tryd.prog 23 #[.agg SC, uv] p fun e w' => ∃ u, e = .returned u ∧ OwnB 5 p.heap.size w' u row ∧ Fr [] p w') (hrfor : ∀ p, Fr [] w p → Calls Tryd.prog 24 #[.agg SC, vv] p fun e w' => ∃ u, e = .returned u ∧ OwnB 5 p.heap.size w' u row ∧ Fr [] p w') (h11 : slot a 11 = .int .i64 0) (h5 : slot a 5 = .pointer (some ⟨ab, 0, none⟩)) (h8 : slot a 8 = uv) (h10 : slot a 10 = vv) (Q : Exit → Go.Act → World → Prop)
    (hQ : ∀ (b : Go.Act) (p : World), b.defers = a.defers → b.tmps.size = 61 → (∀ s, s ∉ ([48, 49, 50, 51, 52, 53, 54, 55, 56, 57, 58, 59, 60, 6] : List Nat) → slot b s = slot a s) → slot b 6 = .bool true → Fr [] w p → Q .normal b p) : Code.wp Tryd.prog lers_regR Q a w := by
  conv => arg 2; whnf
  refine wp_region_ghost (by kernel_rfl) (by kernel_rfl) [some 48, some 49, some 50, some 51, some 52, some 53, some 54, some 55, some 56, some 57, some 58, some 59, some 60, some 6] [5, 9] [.rd (.int .i64 0) 2, .rd (.bool false) 2, .rd (.bool false) 2, .rd (.agg SC) 2, .rd (uv) 2, .gh 0, .rd (.string S) 2, .rd (.agg SC) 2, .rd (vv) 2, .gh 1, .rd (.string S) 2, .rd (.bool true) 2, .rd (.bool true) 2, .rd (.bool true) 2] (fun cj => undef) (fun s g p => Fr [] w p ∧ (0 < s → Bs (fun _ => False) p (g 0) row) ∧ (1 < s → Bs (fun _ => False) p (g 1) row)) (by kernel_rfl) (by rfl) (by rw [hsz]; rfl) (by kernel_rfl) (by kernel_rfl) (by decide) ?_ ⟨?_, ?_, ?_, ?_, ?_, ?_, ?_, ?_, ?_, ?_, ?_, ?_, ?_, ?_, trivial⟩ ?_
  · intro w1 hw1
    exact ⟨fun _ => undef, ⟨hw1, fun hk => absurd hk (by decide), fun hk => absurd hk (by decide)⟩⟩
  · refine ⟨⟨48, rfl⟩, .inl rfl, fun b p s g hs hlow hS h => ?_⟩
    have e0 := (show b.eval (.tmp 11) = .int .i64 0 from (h.old 11 (by decide)).trans h11)
    have ec : ∀ v, b.eval (.const v) = v := fun _ => rfl
    refine ⟨_, by simp only [List.getElem?_toArray, List.getElem?_cons_succ, List.getElem?_cons_zero]; rfl, .inl ⟨(wanted_none rfl), ?_⟩⟩
    obtain ⟨ρ, hρ⟩ : ∃ ρ, b.eval = ρ := ⟨_, rfl⟩
    rw [hρ] at e0 ec ⊢
    unfold execOp; simp [go_sem, e0, ec]
  · refine ⟨⟨49, rfl⟩, .inl rfl, fun b p s g hs hlow hS h => ?_⟩
    have e0 := (show b.eval (.tmp 48) = .int .i64 0 from h.rd 0 _ _ 48 (by kernel_rfl) rfl rfl)
    have ec : ∀ v, b.eval (.const v) = v := fun _ => rfl
    refine ⟨_, by simp only [List.getElem?_toArray, List.getElem?_cons_succ, List.getElem?_cons_zero]; rfl, .inl ⟨(wanted_none rfl), ?_⟩⟩
    obtain ⟨ρ, hρ⟩ : ∃ ρ, b.eval = ρ := ⟨_, rfl⟩
    rw [hρ] at e0 ec ⊢
    unfold execOp; simp [go_sem, e0, ec]
  · refine ⟨⟨50, rfl⟩, .inl rfl, fun b p s g hs hlow hS h => ?_⟩
    have e0 := (show b.eval (.tmp 49) = .bool false from h.rd 1 _ _ 49 (by kernel_rfl) rfl rfl)
    have ec : ∀ v, b.eval (.const v) = v := fun _ => rfl
    refine ⟨_, by simp only [List.getElem?_toArray, List.getElem?_cons_succ, List.getElem?_cons_zero]; rfl, .inl ⟨(wanted_none rfl), ?_⟩⟩
    obtain ⟨ρ, hρ⟩ : ∃ ρ, b.eval = ρ := ⟨_, rfl⟩
    rw [hρ] at e0 ec ⊢
    unfold execOp; simp [go_sem, e0, ec]
  · refine ⟨⟨51, rfl⟩, .inl rfl, fun b p s g hs hlow hS h => ?_⟩
    have e0 := (show b.eval (.tmp 5) = .pointer (some ⟨ab, 0, none⟩) from (h.old 5 (by decide)).trans h5)
    obtain ⟨hf, q0, q1⟩ := hS
    refine ⟨_, by simp only [List.getElem?_toArray, List.getElem?_cons_succ, List.getElem?_cons_zero]; rfl, .inl ⟨(wanted_some 2 false 50 rfl (by simp only [List.getElem?_toArray, List.getElem?_cons_succ, List.getElem?_cons_zero]; rfl) (by rw [h.size, hsz]; decide) (h.rd 2 _ _ 50 (by kernel_rfl) rfl rfl)), run_aggO (.tmp 5) rfl ab SC e0 (hA.keep0 hf) Tryd.underlying32 rfl (by rw [hcs]; kernel_rfl)⟩⟩
  · refine ⟨⟨52, rfl⟩, .inl rfl, fun b p s g hs hlow hS h => ?_⟩
    have e0 := (show b.eval (.tmp 8) = uv from (h.old 8 (by decide)).trans h8)
    have ec : ∀ v, b.eval (.const v) = v := fun _ => rfl
    refine ⟨_, by simp only [List.getElem?_toArray, List.getElem?_cons_succ, List.getElem?_cons_zero]; rfl, .inl ⟨(wanted_some 2 false 50 rfl (by simp only [List.getElem?_toArray, List.getElem?_cons_succ, List.getElem?_cons_zero]; rfl) (by rw [h.size, hsz]; decide) (h.rd 2 _ _ 50 (by kernel_rfl) rfl rfl)), ?_⟩⟩
    obtain ⟨ρ, hρ⟩ : ∃ ρ, b.eval = ρ := ⟨_, rfl⟩
    rw [hρ] at e0 ec ⊢
    unfold execOp; simp [go_sem, e0, ec]
  · refine ⟨rfl, .inl rfl, fun b p g hS h => ?_⟩
    have e0 := (show b.eval (.tmp 51) = .agg SC from h.rd 3 _ _ 51 (by kernel_rfl) rfl rfl)
    have e1 := (show b.eval (.tmp 52) = uv from h.rd 4 _ _ 52 (by kernel_rfl) rfl rfl)
    obtain ⟨hf, q0, q1⟩ := hS
    refine opV_func _ (by simp only [List.getElem?_toArray, List.getElem?_cons_succ, List.getElem?_cons_zero]; rfl) (wanted_some 2 false 50 rfl (by simp only [List.getElem?_toArray, List.getElem?_cons_succ, List.getElem?_cons_zero]; rfl) (by rw [h.size, hsz]; decide) (h.rd 2 _ _ 50 (by kernel_rfl) rfl rfl)) 23 _ _ rfl #[.agg SC, uv] (by simp only [List.map_toArray, List.map_cons, List.map_nil, e0, e1]) (by simp [go_sem]) ((hfor p hf).mono ?_)
    rintro e p' ⟨u, rfl, ho, hf'⟩
    exact ⟨_, rfl, ⟨hf.trans hf', fun _ => ho.bs (by simp), fun hk => absurd hk (by decide)⟩⟩
  · refine ⟨⟨54, rfl⟩, .inl rfl, fun b p s g hs hlow hS h => ?_⟩
    have e0 := (show b.eval (.tmp 53) = g 0 from h.gh 5 _ 53 (by kernel_rfl) rfl rfl)
    obtain ⟨hf, q0, q1⟩ := hS
    exact ⟨_, by simp only [List.getElem?_toArray, List.getElem?_cons_succ, List.getElem?_cons_zero]; rfl, .inl ⟨(wanted_some 2 false 50 rfl (by simp only [List.getElem?_toArray, List.getElem?_cons_succ, List.getElem?_cons_zero]; rfl) (by rw [h.size, hsz]; decide) (h.rd 2 _ _ 50 (by kernel_rfl) rfl rfl)), run_strO (src := 22) (dst := 9) Tryd.underlying22 Tryd.underlying5 Tryd.underlying9 (.tmp 53) rfl e0 (q0 (hlow 0 5 rfl (by kernel_rfl))) S hS⟩⟩
  · refine ⟨⟨55, rfl⟩, .inl rfl, fun b p s g hs hlow hS h => ?_⟩
    have e0 := (show b.eval (.tmp 5) = .pointer (some ⟨ab, 0, none⟩) from (h.old 5 (by decide)).trans h5)
    obtain ⟨hf, q0, q1⟩ := hS
    refine ⟨_, by simp only [List.getElem?_toArray, List.getElem?_cons_succ, List.getElem?_cons_zero]; rfl, .inl ⟨(wanted_some 2 false 50 rfl (by simp only [List.getElem?_toArray, List.getElem?_cons_succ, List.getElem?_cons_zero]; rfl) (by rw [h.size, hsz]; decide) (h.rd 2 _ _ 50 (by kernel_rfl) rfl rfl)), run_aggO (.tmp 5) rfl ab SC e0 (hA.keep0 hf) Tryd.underlying32 rfl (by rw [hcs]; kernel_rfl)⟩⟩
  · refine ⟨⟨56, rfl⟩, .inl rfl, fun b p s g hs hlow hS h => ?_⟩
    have e0 := (show b.eval (.tmp 10) = vv from (h.old 10 (by decide)).trans h10)
    have ec : ∀ v, b.eval (.const v) = v := fun _ => rfl
    refine ⟨_, by simp only [List.getElem?_toArray, List.getElem?_cons_succ, List.getElem?_cons_zero]; rfl, .inl ⟨(wanted_some 2 false 50 rfl (by simp only [List.getElem?_toArray, List.getElem?_cons_succ, List.getElem?_cons_zero]; rfl) (by rw [h.size, hsz]; decide) (h.rd 2 _ _ 50 (by kernel_rfl) rfl rfl)), ?_⟩⟩
    obtain ⟨ρ, hρ⟩ : ∃ ρ, b.eval = ρ := ⟨_, rfl⟩
    rw [hρ] at e0 ec ⊢
    unfold execOp; simp [go_sem, e0, ec]
  · refine ⟨rfl, .inr ⟨5, rfl, by kernel_rfl⟩, fun b p g hS h => ?_⟩
    have e0 := (show b.eval (.tmp 55) = .agg SC from h.rd 7 _ _ 55 (by kernel_rfl) rfl rfl)
    have e1 := (show b.eval (.tmp 56) = vv from h.rd 8 _ _ 56 (by kernel_rfl) rfl rfl)
    obtain ⟨hf, q0, q1⟩ := hS
    refine opV_func _ (by simp only [List.getElem?_toArray, List.getElem?_cons_succ, List.getElem?_cons_zero]; rfl) (wanted_some 2 false 50 rfl (by simp only [List.getElem?_toArray, List.getElem?_cons_succ, List.getElem?_cons_zero]; rfl) (by rw [h.size, hsz]; decide) (h.rd 2 _ _ 50 (by kernel_rfl) rfl rfl)) 24 _ _ rfl #[.agg SC, vv] (by simp only [List.map_toArray, List.map_cons, List.map_nil, e0, e1]) (by simp [go_sem]) ((hrfor p hf).mono ?_)
    rintro e p' ⟨u, rfl, ho, hf'⟩
    exact ⟨_, rfl, ⟨hf.trans hf', fun _ => (q0 (by decide)).keep hf' (by simp), fun _ => ho.bs (by simp)⟩⟩
  · refine ⟨⟨58, rfl⟩, .inl rfl, fun b p s g hs hlow hS h => ?_⟩
    have e0 := (show b.eval (.tmp 57) = g 1 from h.gh 9 _ 57 (by kernel_rfl) rfl rfl)
    obtain ⟨hf, q0, q1⟩ := hS
    exact ⟨_, by simp only [List.getElem?_toArray, List.getElem?_cons_succ, List.getElem?_cons_zero]; rfl, .inl ⟨(wanted_some 2 false 50 rfl (by simp only [List.getElem?_toArray, List.getElem?_cons_succ, List.getElem?_cons_zero]; rfl) (by rw [h.size, hsz]; decide) (h.rd 2 _ _ 50 (by kernel_rfl) rfl rfl)), run_strO (src := 22) (dst := 9) Tryd.underlying22 Tryd.underlying5 Tryd.underlying9 (.tmp 57) rfl e0 (q1 (hlow 1 9 rfl (by kernel_rfl))) S hS⟩⟩
  · refine ⟨⟨59, rfl⟩, .inl rfl, fun b p s g hs hlow hS h => ?_⟩
    have e0 := (show b.eval (.tmp 54) = .string S from h.rd 6 _ _ 54 (by kernel_rfl) rfl rfl)
    have e1 := (show b.eval (.tmp 58) = .string S from h.rd 10 _ _ 58 (by kernel_rfl) rfl rfl)
    have ec : ∀ v, b.eval (.const v) = v := fun _ => rfl
    refine ⟨_, by simp only [List.getElem?_toArray, List.getElem?_cons_succ, List.getElem?_cons_zero]; rfl, .inl ⟨(wanted_some 2 false 50 rfl (by simp only [List.getElem?_toArray, List.getElem?_cons_succ, List.getElem?_cons_zero]; rfl) (by rw [h.size, hsz]; decide) (h.rd 2 _ _ 50 (by kernel_rfl) rfl rfl)), ?_⟩⟩
    obtain ⟨ρ, hρ⟩ : ∃ ρ, b.eval = ρ := ⟨_, rfl⟩
    rw [hρ] at e0 e1 ec ⊢
    unfold execOp; simp [go_sem, e0, e1, ec]
  · refine ⟨⟨60, rfl⟩, .inl rfl, fun b p s g hs hlow hS h => ?_⟩
    have e0 := (show b.eval (.tmp 50) = .bool false from h.rd 2 _ _ 50 (by kernel_rfl) rfl rfl)
    have e1 := (show b.eval (.tmp 59) = .bool true from h.rd 11 _ _ 59 (by kernel_rfl) rfl rfl)
    have ec : ∀ v, b.eval (.const v) = v := fun _ => rfl
    refine ⟨_, by simp only [List.getElem?_toArray, List.getElem?_cons_succ, List.getElem?_cons_zero]; rfl, .inl ⟨(wanted_none rfl), ?_⟩⟩
    obtain ⟨ρ, hρ⟩ : ∃ ρ, b.eval = ρ := ⟨_, rfl⟩
    rw [hρ] at e0 e1 ec ⊢
    unfold execOp; simp [go_sem, e0, e1, ec]
  · refine ⟨⟨6, rfl⟩, .inl rfl, fun b p s g hs hlow hS h => ?_⟩
    have e0 := (show b.eval (.tmp 60) = .bool true from h.rd 12 _ _ 60 (by kernel_rfl) rfl rfl)
    have ec : ∀ v, b.eval (.const v) = v := fun _ => rfl
    refine ⟨_, by simp only [List.getElem?_toArray, List.getElem?_cons_succ, List.getElem?_cons_zero]; rfl, .inl ⟨(wanted_none rfl), ?_⟩⟩
    obtain ⟨ρ, hρ⟩ : ∃ ρ, b.eval = ρ := ⟨_, rfl⟩
    rw [hρ] at e0 ec ⊢
    unfold execOp; simp [go_sem, e0, ec]
  · intro b p h1 h2 h3 h4 h5
    obtain ⟨g, h4, h6⟩ := h4
    have r6 : slot b 6 = .bool true := h5 13 (.bool true) _ 6 rfl rfl
    exact hQ b p h1 (h2.trans hsz) (fun s hs => h3 s (fun hm => hs (by simpa using hm))) r6 h4.1
end Go.Proofs.YtfblhdomjnffcaaDoor
