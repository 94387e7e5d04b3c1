/-
  The law LinesStates: its drawn regions. (printed by genlss.py)
-/
import Derived.Test.YtdkhgpnidamalaaDoorLdk
import Derived.Test.YtdkhgpnidamalaaDoorSmt
namespace Go.Proofs.YtdkhgpnidamalaaDoor
open Go.RowKit Go.Bl
set_option linter.unusedVariables false
set_option maxRecDepth 100000 in
theorem frame69 (a : Go.Act) (hs : a.tmps.size = 69) (hd : a.defers = []) : a = ⟨(slot a 0 :: slot a 1 :: slot a 2 :: slot a 3 :: slot a 4 :: slot a 5 :: slot a 6 :: slot a 7 :: slot a 8 :: slot a 9 :: slot a 10 :: slot a 11 :: slot a 12 :: slot a 13 :: slot a 14 :: slot a 15 :: slot a 16 :: slot a 17 :: slot a 18 :: slot a 19 :: slot a 20 :: slot a 21 :: slot a 22 :: slot a 23 :: slot a 24 :: slot a 25 :: slot a 26 :: slot a 27 :: slot a 28 :: slot a 29 :: slot a 30 :: slot a 31 :: slot a 32 :: slot a 33 :: slot a 34 :: slot a 35 :: slot a 36 :: slot a 37 :: slot a 38 :: slot a 39 :: slot a 40 :: slot a 41 :: slot a 42 :: slot a 43 :: slot a 44 :: slot a 45 :: slot a 46 :: slot a 47 :: slot a 48 :: slot a 49 :: slot a 50 :: slot a 51 :: slot a 52 :: slot a 53 :: slot a 54 :: slot a 55 :: slot a 56 :: slot a 57 :: slot a 58 :: slot a 59 :: slot a 60 :: slot a 61 :: slot a 62 :: slot a 63 :: slot a 64 :: slot a 65 :: slot a 66 :: slot a 67 :: slot a 68 :: []).toArray, []⟩ := frameX a 69 hs hd

noncomputable def lss_reg1R : Code := ((Tryd.f3.body.bind (findRegionC 10)).getD .skip)
set_option maxRecDepth 1000000 in
set_option maxHeartbeats 8000000 in
theorem lss_reg1 (w : World) (a : Go.Act) (hsz : a.tmps.size = 69) (xb : Nat) (L : List Value) (S : ByteArray) (hA : ∀ p, Fr [] w p → Calls Tryd.prog 5 #[.agg L.toArray] p fun e w' => e = .returned (.string S) ∧ Fr [] p w') (hB : ∀ p, Fr [] w p → Calls Tryd.prog 7 #[.agg L.toArray] p fun e w' => e = .returned (.agg L.toArray) ∧ Fr [] p w') (hC : ∀ p, Fr [] w p → Calls Tryd.prog 6 #[.agg L.toArray] p fun e w' => e = .returned (.string S) ∧ Fr [] p w') (hsL : (Tryd.prog.info? 32).map (·.size) = some L.length) (hbL : w.rangeAt xb 0 L) (h6 : slot a 6 = .pointer (some ⟨xb, 0, none⟩)) (Q : Exit → Go.Act → World → Prop)
    (hQ : ∀ (b : Go.Act) (p : World), b.defers = a.defers → b.tmps.size = 69 → (∀ s, s ∉ ([33, 34, 35, 36, 37, 38] : List Nat) → slot b s = slot a s) → slot b 38 = .bool false → Fr [] w p → Q .normal b p) : Code.wp Tryd.prog lss_reg1R Q a w := by
  conv => arg 2; whnf
  refine wp_region_ghost (by kernel_rfl) (by kernel_rfl) [some 33, some 34, some 35, some 36, some 37, some 38] [1, 3, 4] [.rd (.agg L.toArray) 3, .st 0, .rd (.agg L.toArray) 3, .st 1, .st 2, .rd (.bool false) 3] (fun cj => if cj = 0 then (.string S) else if cj = 1 then (.agg L.toArray) else if cj = 2 then (.string S) else undef) (fun s g p => Fr [] w p) (by kernel_rfl) (by rfl) (by rw [hsz]; rfl) (by kernel_rfl) (by kernel_rfl) (by decide) ?_ ⟨?_, ?_, ?_, ?_, ?_, ?_, trivial⟩ ?_
  · intro w1 hw1
    exact ⟨fun _ => undef, hw1⟩
  · refine ⟨⟨33, rfl⟩, .inl rfl, fun b p s g hs hlow hS h => ?_⟩
    have e0 := (show b.eval (.tmp 6) = .pointer (some ⟨xb, 0, none⟩) from (h.old 6 (by decide)).trans h6)
    have hf := hS
    exact ⟨_, by simp only [List.getElem?_toArray, List.getElem?_cons_succ, List.getElem?_cons_zero]; rfl, .inl ⟨(wanted_none rfl), run_ldk rfl e0 (range_keep hbL hf) Tryd.underlying32 rfl (by first | exact hsL | exact hsT | kernel_rfl)⟩⟩
  · refine ⟨rfl, .inl rfl, fun b p g hS h => ?_⟩
    have e0 := (show b.eval (.tmp 33) = .agg L.toArray from h.rd 0 _ _ 33 (by kernel_rfl) rfl rfl)
    have hf := hS
    refine opV_func _ (by simp only [List.getElem?_toArray, List.getElem?_cons_succ, List.getElem?_cons_zero]; rfl) (wanted_none rfl) 5 _ _ rfl #[.agg L.toArray] (by simp only [List.map_toArray, List.map_cons, List.map_nil, e0]) (by simp [go_sem]) ((hA p hf).mono ?_)
    rintro e p' ⟨rfl, hf'⟩
    exact ⟨_, rfl, hf.trans hf', .inr rfl⟩
  · refine ⟨⟨35, rfl⟩, .inl rfl, fun b p s g hs hlow hS h => ?_⟩
    have e0 := (show b.eval (.tmp 6) = .pointer (some ⟨xb, 0, none⟩) from (h.old 6 (by decide)).trans h6)
    have hf := hS
    exact ⟨_, by simp only [List.getElem?_toArray, List.getElem?_cons_succ, List.getElem?_cons_zero]; rfl, .inl ⟨(wanted_none rfl), run_ldk rfl e0 (range_keep hbL hf) Tryd.underlying32 rfl (by first | exact hsL | exact hsT | kernel_rfl)⟩⟩
  · refine ⟨rfl, .inr ⟨1, rfl, by kernel_rfl⟩, fun b p g hS h => ?_⟩
    have e0 := (show b.eval (.tmp 35) = .agg L.toArray from h.rd 2 _ _ 35 (by kernel_rfl) rfl rfl)
    have hf := hS
    refine opV_func _ (by simp only [List.getElem?_toArray, List.getElem?_cons_succ, List.getElem?_cons_zero]; rfl) (wanted_none rfl) 7 _ _ rfl #[.agg L.toArray] (by simp only [List.map_toArray, List.map_cons, List.map_nil, e0]) (by simp [go_sem]) ((hB p hf).mono ?_)
    rintro e p' ⟨rfl, hf'⟩
    exact ⟨_, rfl, hf.trans hf', .inr rfl⟩
  · refine ⟨rfl, .inr ⟨3, rfl, by kernel_rfl⟩, fun b p g hS h => ?_⟩
    have e0 := (show b.eval (.tmp 36) = .agg L.toArray from h.st 3 _ 36 (by kernel_rfl) rfl rfl)
    have hf := hS
    refine opV_func _ (by simp only [List.getElem?_toArray, List.getElem?_cons_succ, List.getElem?_cons_zero]; rfl) (wanted_none rfl) 6 _ _ rfl #[.agg L.toArray] (by simp only [List.map_toArray, List.map_cons, List.map_nil, e0]) (by simp [go_sem]) ((hC p hf).mono ?_)
    rintro e p' ⟨rfl, hf'⟩
    exact ⟨_, rfl, hf.trans hf', .inr rfl⟩
  · refine ⟨⟨38, rfl⟩, .inl rfl, fun b p s g hs hlow hS h => ?_⟩
    have e0 := (show b.eval (.tmp 34) = .string S from h.st 1 _ 34 (by kernel_rfl) rfl rfl)
    have e1 := (show b.eval (.tmp 37) = .string S from h.st 4 _ 37 (by kernel_rfl) rfl rfl)
    have ec : ∀ v, b.eval (.const v) = v := fun _ => rfl
    refine ⟨_, by simp only [List.getElem?_toArray, List.getElem?_cons_succ, List.getElem?_cons_zero]; rfl, .inl ⟨(wanted_none rfl), ?_⟩⟩
    obtain ⟨ρ, hρ⟩ : ∃ ρ, b.eval = ρ := ⟨_, rfl⟩
    rw [hρ] at e0 e1 ec ⊢
    unfold execOp; simp [go_sem, e0, e1, ec]
  · intro b p h1 h2 h3 h4 h5
    obtain ⟨g, h4, h6⟩ := h4
    have r38 : slot b 38 = .bool false := h5 5 (.bool false) _ 38 rfl rfl
    exact hQ b p h1 (h2.trans hsz) (fun s hs => h3 s (fun hm => hs (by simpa using hm))) r38 h4

noncomputable def lss_reg2R : Code := ((Tryd.f3.body.bind (findRegionC 16)).getD .skip)
set_option maxRecDepth 1000000 in
set_option maxHeartbeats 8000000 in
theorem lss_reg2 (w : World) (a : Go.Act) (hsz : a.tmps.size = 69) (xb : Nat) (L : List Value) (S : ByteArray) (hA : ∀ p, Fr [] w p → Calls Tryd.prog 8 #[.agg L.toArray] p fun e w' => e = .returned (.string S) ∧ Fr [] p w') (hC : ∀ p, Fr [] w p → Calls Tryd.prog 9 #[.agg L.toArray] p fun e w' => e = .returned (.string S) ∧ Fr [] p w') (hsL : (Tryd.prog.info? 40).map (·.size) = some L.length) (hbL : w.rangeAt xb 0 L) (h8 : slot a 8 = .pointer (some ⟨xb, 0, none⟩)) (Q : Exit → Go.Act → World → Prop)
    (hQ : ∀ (b : Go.Act) (p : World), b.defers = a.defers → b.tmps.size = 69 → (∀ s, s ∉ ([47, 48, 49, 50, 51] : List Nat) → slot b s = slot a s) → slot b 51 = .bool false → Fr [] w p → Q .normal b p) : Code.wp Tryd.prog lss_reg2R Q a w := by
  conv => arg 2; whnf
  refine wp_region_ghost (by kernel_rfl) (by kernel_rfl) [some 47, some 48, some 49, some 50, some 51] [1, 3] [.rd (.agg L.toArray) 2, .st 0, .rd (.agg L.toArray) 2, .st 1, .rd (.bool false) 2] (fun cj => if cj = 0 then (.string S) else if cj = 1 then (.string S) else undef) (fun s g p => Fr [] w p) (by kernel_rfl) (by rfl) (by rw [hsz]; rfl) (by kernel_rfl) (by kernel_rfl) (by decide) ?_ ⟨?_, ?_, ?_, ?_, ?_, trivial⟩ ?_
  · intro w1 hw1
    exact ⟨fun _ => undef, hw1⟩
  · refine ⟨⟨47, rfl⟩, .inl rfl, fun b p s g hs hlow hS h => ?_⟩
    have e0 := (show b.eval (.tmp 8) = .pointer (some ⟨xb, 0, none⟩) from (h.old 8 (by decide)).trans h8)
    have hf := hS
    exact ⟨_, by simp only [List.getElem?_toArray, List.getElem?_cons_succ, List.getElem?_cons_zero]; rfl, .inl ⟨(wanted_none rfl), run_ldk rfl e0 (range_keep hbL hf) Tryd.underlying40 rfl (by first | exact hsL | exact hsT | kernel_rfl)⟩⟩
  · refine ⟨rfl, .inl rfl, fun b p g hS h => ?_⟩
    have e0 := (show b.eval (.tmp 47) = .agg L.toArray from h.rd 0 _ _ 47 (by kernel_rfl) rfl rfl)
    have hf := hS
    refine opV_func _ (by simp only [List.getElem?_toArray, List.getElem?_cons_succ, List.getElem?_cons_zero]; rfl) (wanted_none rfl) 8 _ _ rfl #[.agg L.toArray] (by simp only [List.map_toArray, List.map_cons, List.map_nil, e0]) (by simp [go_sem]) ((hA p hf).mono ?_)
    rintro e p' ⟨rfl, hf'⟩
    exact ⟨_, rfl, hf.trans hf', .inr rfl⟩
  · refine ⟨⟨49, rfl⟩, .inl rfl, fun b p s g hs hlow hS h => ?_⟩
    have e0 := (show b.eval (.tmp 8) = .pointer (some ⟨xb, 0, none⟩) from (h.old 8 (by decide)).trans h8)
    have hf := hS
    exact ⟨_, by simp only [List.getElem?_toArray, List.getElem?_cons_succ, List.getElem?_cons_zero]; rfl, .inl ⟨(wanted_none rfl), run_ldk rfl e0 (range_keep hbL hf) Tryd.underlying40 rfl (by first | exact hsL | exact hsT | kernel_rfl)⟩⟩
  · refine ⟨rfl, .inr ⟨1, rfl, by kernel_rfl⟩, fun b p g hS h => ?_⟩
    have e0 := (show b.eval (.tmp 49) = .agg L.toArray from h.rd 2 _ _ 49 (by kernel_rfl) rfl rfl)
    have hf := hS
    refine opV_func _ (by simp only [List.getElem?_toArray, List.getElem?_cons_succ, List.getElem?_cons_zero]; rfl) (wanted_none rfl) 9 _ _ rfl #[.agg L.toArray] (by simp only [List.map_toArray, List.map_cons, List.map_nil, e0]) (by simp [go_sem]) ((hC p hf).mono ?_)
    rintro e p' ⟨rfl, hf'⟩
    exact ⟨_, rfl, hf.trans hf', .inr rfl⟩
  · refine ⟨⟨51, rfl⟩, .inl rfl, fun b p s g hs hlow hS h => ?_⟩
    have e0 := (show b.eval (.tmp 48) = .string S from h.st 1 _ 48 (by kernel_rfl) rfl rfl)
    have e1 := (show b.eval (.tmp 50) = .string S from h.st 3 _ 50 (by kernel_rfl) rfl rfl)
    have ec : ∀ v, b.eval (.const v) = v := fun _ => rfl
    refine ⟨_, by simp only [List.getElem?_toArray, List.getElem?_cons_succ, List.getElem?_cons_zero]; rfl, .inl ⟨(wanted_none rfl), ?_⟩⟩
    obtain ⟨ρ, hρ⟩ : ∃ ρ, b.eval = ρ := ⟨_, rfl⟩
    rw [hρ] at e0 e1 ec ⊢
    unfold execOp; simp [go_sem, e0, e1, ec]
  · intro b p h1 h2 h3 h4 h5
    obtain ⟨g, h4, h6⟩ := h4
    have r51 : slot b 51 = .bool false := h5 4 (.bool false) _ 51 rfl rfl
    exact hQ b p h1 (h2.trans hsz) (fun s hs => h3 s (fun hm => hs (by simpa using hm))) r51 h4

noncomputable def lss_reg3R : Code := ((Tryd.f3.body.bind (findRegionC 20)).getD .skip)
set_option maxRecDepth 1000000 in
set_option maxHeartbeats 8000000 in
theorem lss_reg3 (w : World) (a : Go.Act) (hsz : a.tmps.size = 69) (sb tb : Nat) (n : Int) (S1 S2 : List Value) (S : ByteArray) (SS : List ByteArray) (hA : ∀ p, Fr [] w p → Calls Tryd.prog 12 #[.agg (S1 : List Value).toArray] p fun e w' => ∃ u, e = .returned u ∧ Vs (fun _ => False) w' u (SS.map Value.string) ∧ Fr [] p w') (hB : ∀ p, Fr [] w p → Calls Tryd.prog 13 #[.agg (S2 : List Value).toArray] p fun e w' => ∃ u, e = .returned u ∧ Vs (fun _ => False) w' u (SS.map Value.string) ∧ Fr [] p w') (hC : ∀ p, Fr [] w p → Calls Tryd.prog 14 #[.agg (S1 : List Value).toArray, .int .i64 n] p fun e w' => e = .returned (.string S) ∧ Fr [] p w') (hD : ∀ p, Fr [] w p → Calls Tryd.prog 15 #[.agg (S2 : List Value).toArray, .int .i64 n] p fun e w' => e = .returned (.string S) ∧ Fr [] p w') (hss : SS.length ≤ 100000) (hsL : (Tryd.prog.info? 25).map (·.size) = some S1.length) (hsT : (Tryd.prog.info? 47).map (·.size) = some S2.length) (hb1 : w.rangeAt sb 0 S1) (hb2 : w.rangeAt tb 0 S2) (h2 : slot a 2 = .pointer (some ⟨sb, 0, none⟩)) (h9 : slot a 9 = .pointer (some ⟨tb, 0, none⟩)) (h1 : slot a 1 = .int .i64 n) (Q : Exit → Go.Act → World → Prop)
    (hQ : ∀ (b : Go.Act) (p : World), b.defers = a.defers → b.tmps.size = 69 → (∀ s, s ∉ ([55, 56, 57, 58, 59, 60, 61, 62, 63, 64, 65, 66, 67, 68, 4] : List Nat) → slot b s = slot a s) → slot b 4 = .bool true → Fr [] w p → Q .normal b p) : Code.wp Tryd.prog lss_reg3R Q a w := by
  conv => arg 2; whnf
  refine wp_region_ghost (by kernel_rfl) (by kernel_rfl) [some 55, some 56, some 57, some 58, some 59, some 60, some 61, some 62, some 63, some 64, some 65, some 66, some 67, some 68, some 4] [1, 3, 4, 8, 11] [.rd (.agg (S1 : List Value).toArray) 5, .gh 0, .rd (.agg (S2 : List Value).toArray) 5, .gh 1, .st 2, .rd (.bool true) 5, .rd (.agg (S1 : List Value).toArray) 5, .rd (.int .i64 n) 5, .st 3, .rd (.agg (S2 : List Value).toArray) 5, .rd (.int .i64 n) 5, .st 4, .rd (.bool true) 5, .rd (.bool true) 5, .rd (.bool true) 5] (fun cj => if cj = 2 then (.bool true) else if cj = 3 then (.string S) else if cj = 4 then (.string S) else undef) (fun s g p => Fr [] w p ∧ (0 < s → Vs (fun _ => False) p ((g 0)) (SS.map Value.string)) ∧ (1 < s → Vs (fun _ => False) p ((g 1)) (SS.map Value.string))) (by kernel_rfl) (by rfl) (by rw [hsz]; rfl) (by kernel_rfl) (by kernel_rfl) (by decide) ?_ ⟨?_, ?_, ?_, ?_, ?_, ?_, ?_, ?_, ?_, ?_, ?_, ?_, ?_, ?_, ?_, trivial⟩ ?_
  · intro w1 hw1
    exact ⟨fun _ => undef, ⟨hw1, fun hk => absurd hk (by decide), fun hk => absurd hk (by decide)⟩⟩
  · refine ⟨⟨55, rfl⟩, .inl rfl, fun b p s g hs hlow hS h => ?_⟩
    have e0 := (show b.eval (.tmp 2) = .pointer (some ⟨sb, 0, none⟩) from (h.old 2 (by decide)).trans h2)
    obtain ⟨hf, q0, q1⟩ := hS
    exact ⟨_, by simp only [List.getElem?_toArray, List.getElem?_cons_succ, List.getElem?_cons_zero]; rfl, .inl ⟨(wanted_none rfl), run_ldk rfl e0 (range_keep hb1 hf) Tryd.underlying25 rfl (by first | exact hsL | exact hsT | kernel_rfl)⟩⟩
  · refine ⟨rfl, .inl rfl, fun b p g hS h => ?_⟩
    have e0 := (show b.eval (.tmp 55) = .agg (S1 : List Value).toArray from h.rd 0 _ _ 55 (by kernel_rfl) rfl rfl)
    obtain ⟨hf, q0, q1⟩ := hS
    refine opV_func _ (by simp only [List.getElem?_toArray, List.getElem?_cons_succ, List.getElem?_cons_zero]; rfl) (wanted_none rfl) 12 _ _ rfl #[.agg (S1 : List Value).toArray] (by simp only [List.map_toArray, List.map_cons, List.map_nil, e0]) (by simp [go_sem]) ((hA p hf).mono ?_)
    rintro e p' ⟨u, rfl, hv, hf'⟩
    exact ⟨_, rfl, ⟨hf.trans hf', fun _ => hv, fun hk => absurd hk (by decide)⟩⟩
  · refine ⟨⟨57, rfl⟩, .inl rfl, fun b p s g hs hlow hS h => ?_⟩
    have e0 := (show b.eval (.tmp 9) = .pointer (some ⟨tb, 0, none⟩) from (h.old 9 (by decide)).trans h9)
    obtain ⟨hf, q0, q1⟩ := hS
    exact ⟨_, by simp only [List.getElem?_toArray, List.getElem?_cons_succ, List.getElem?_cons_zero]; rfl, .inl ⟨(wanted_none rfl), run_ldk rfl e0 (range_keep hb2 hf) Tryd.underlying47 rfl (by first | exact hsL | exact hsT | kernel_rfl)⟩⟩
  · refine ⟨rfl, .inr ⟨1, rfl, by kernel_rfl⟩, fun b p g hS h => ?_⟩
    have e0 := (show b.eval (.tmp 57) = .agg (S2 : List Value).toArray from h.rd 2 _ _ 57 (by kernel_rfl) rfl rfl)
    obtain ⟨hf, q0, q1⟩ := hS
    refine opV_func _ (by simp only [List.getElem?_toArray, List.getElem?_cons_succ, List.getElem?_cons_zero]; rfl) (wanted_none rfl) 13 _ _ rfl #[.agg (S2 : List Value).toArray] (by simp only [List.map_toArray, List.map_cons, List.map_nil, e0]) (by simp [go_sem]) ((hB p hf).mono ?_)
    rintro e p' ⟨u, rfl, hv, hf'⟩
    exact ⟨_, rfl, ⟨hf.trans hf', fun _ => (Vs.keep0 ((q0 (by decide))) hf'), fun _ => hv⟩⟩
  · refine ⟨rfl, .inr ⟨3, rfl, by kernel_rfl⟩, fun b p g hS h => ?_⟩
    have e0 := (show b.eval (.tmp 56) = g 0 from h.gh 1 _ 56 (by kernel_rfl) rfl rfl)
    have e1 := (show b.eval (.tmp 58) = g 1 from h.gh 3 _ 58 (by kernel_rfl) rfl rfl)
    obtain ⟨hf, q0, q1⟩ := hS
    refine opV_func _ (by simp only [List.getElem?_toArray, List.getElem?_cons_succ, List.getElem?_cons_zero]; rfl) (wanted_none rfl) 11 _ _ rfl #[g 0, g 1] (by simp only [List.map_toArray, List.map_cons, List.map_nil, e0, e1]) (by simp [go_sem]) ((sameTexts_any p _ _ SS (q0 (by decide)) (q1 (by decide)) hss).mono ?_)
    rintro e p' ⟨rfl, hf'⟩
    exact ⟨_, rfl, ⟨hf.trans hf', fun _ => (Vs.keep0 ((q0 (by decide))) hf'), fun _ => (Vs.keep0 ((q1 (by decide))) hf')⟩, .inr rfl⟩
  · refine ⟨⟨60, rfl⟩, .inl rfl, fun b p s g hs hlow hS h => ?_⟩
    have e0 := (show b.eval (.tmp 59) = .bool true from h.st 4 _ 59 (by kernel_rfl) rfl rfl)
    have ec : ∀ v, b.eval (.const v) = v := fun _ => rfl
    refine ⟨_, by simp only [List.getElem?_toArray, List.getElem?_cons_succ, List.getElem?_cons_zero]; rfl, .inl ⟨(wanted_none rfl), ?_⟩⟩
    obtain ⟨ρ, hρ⟩ : ∃ ρ, b.eval = ρ := ⟨_, rfl⟩
    rw [hρ] at e0 ec ⊢
    unfold execOp; simp [go_sem, e0, ec]
  · refine ⟨⟨61, rfl⟩, .inl rfl, fun b p s g hs hlow hS h => ?_⟩
    have e0 := (show b.eval (.tmp 2) = .pointer (some ⟨sb, 0, none⟩) from (h.old 2 (by decide)).trans h2)
    obtain ⟨hf, q0, q1⟩ := hS
    exact ⟨_, by simp only [List.getElem?_toArray, List.getElem?_cons_succ, List.getElem?_cons_zero]; rfl, .inl ⟨(wanted_some 5 true 60 rfl (by simp only [List.getElem?_toArray, List.getElem?_cons_succ, List.getElem?_cons_zero]; rfl) (by rw [h.size, hsz]; decide) (h.rd 5 _ _ 60 (by kernel_rfl) rfl rfl)), run_ldk rfl e0 (range_keep hb1 hf) Tryd.underlying25 rfl (by first | exact hsL | exact hsT | kernel_rfl)⟩⟩
  · refine ⟨⟨62, rfl⟩, .inl rfl, fun b p s g hs hlow hS h => ?_⟩
    have e0 := (show b.eval (.tmp 1) = .int .i64 n from (h.old 1 (by decide)).trans h1)
    have ec : ∀ v, b.eval (.const v) = v := fun _ => rfl
    refine ⟨_, by simp only [List.getElem?_toArray, List.getElem?_cons_succ, List.getElem?_cons_zero]; rfl, .inl ⟨(wanted_some 5 true 60 rfl (by simp only [List.getElem?_toArray, List.getElem?_cons_succ, List.getElem?_cons_zero]; rfl) (by rw [h.size, hsz]; decide) (h.rd 5 _ _ 60 (by kernel_rfl) rfl rfl)), ?_⟩⟩
    obtain ⟨ρ, hρ⟩ : ∃ ρ, b.eval = ρ := ⟨_, rfl⟩
    rw [hρ] at e0 ec ⊢
    unfold execOp; simp [go_sem, e0, ec]
  · refine ⟨rfl, .inr ⟨4, rfl, by kernel_rfl⟩, fun b p g hS h => ?_⟩
    have e0 := (show b.eval (.tmp 61) = .agg (S1 : List Value).toArray from h.rd 6 _ _ 61 (by kernel_rfl) rfl rfl)
    have e1 := (show b.eval (.tmp 62) = .int .i64 n from h.rd 7 _ _ 62 (by kernel_rfl) rfl rfl)
    obtain ⟨hf, q0, q1⟩ := hS
    refine opV_func _ (by simp only [List.getElem?_toArray, List.getElem?_cons_succ, List.getElem?_cons_zero]; rfl) (wanted_some 5 true 60 rfl (by simp only [List.getElem?_toArray, List.getElem?_cons_succ, List.getElem?_cons_zero]; rfl) (by rw [h.size, hsz]; decide) (h.rd 5 _ _ 60 (by kernel_rfl) rfl rfl)) 14 _ _ rfl #[.agg (S1 : List Value).toArray, .int .i64 n] (by simp only [List.map_toArray, List.map_cons, List.map_nil, e0, e1]) (by simp [go_sem]) ((hC p hf).mono ?_)
    rintro e p' ⟨rfl, hf'⟩
    exact ⟨_, rfl, ⟨hf.trans hf', fun _ => (Vs.keep0 ((q0 (by decide))) hf'), fun _ => (Vs.keep0 ((q1 (by decide))) hf')⟩, .inr rfl⟩
  · refine ⟨⟨64, rfl⟩, .inl rfl, fun b p s g hs hlow hS h => ?_⟩
    have e0 := (show b.eval (.tmp 9) = .pointer (some ⟨tb, 0, none⟩) from (h.old 9 (by decide)).trans h9)
    obtain ⟨hf, q0, q1⟩ := hS
    exact ⟨_, by simp only [List.getElem?_toArray, List.getElem?_cons_succ, List.getElem?_cons_zero]; rfl, .inl ⟨(wanted_some 5 true 60 rfl (by simp only [List.getElem?_toArray, List.getElem?_cons_succ, List.getElem?_cons_zero]; rfl) (by rw [h.size, hsz]; decide) (h.rd 5 _ _ 60 (by kernel_rfl) rfl rfl)), run_ldk rfl e0 (range_keep hb2 hf) Tryd.underlying47 rfl (by first | exact hsL | exact hsT | kernel_rfl)⟩⟩
  · refine ⟨⟨65, rfl⟩, .inl rfl, fun b p s g hs hlow hS h => ?_⟩
    have e0 := (show b.eval (.tmp 1) = .int .i64 n from (h.old 1 (by decide)).trans h1)
    have ec : ∀ v, b.eval (.const v) = v := fun _ => rfl
    refine ⟨_, by simp only [List.getElem?_toArray, List.getElem?_cons_succ, List.getElem?_cons_zero]; rfl, .inl ⟨(wanted_some 5 true 60 rfl (by simp only [List.getElem?_toArray, List.getElem?_cons_succ, List.getElem?_cons_zero]; rfl) (by rw [h.size, hsz]; decide) (h.rd 5 _ _ 60 (by kernel_rfl) rfl rfl)), ?_⟩⟩
    obtain ⟨ρ, hρ⟩ : ∃ ρ, b.eval = ρ := ⟨_, rfl⟩
    rw [hρ] at e0 ec ⊢
    unfold execOp; simp [go_sem, e0, ec]
  · refine ⟨rfl, .inr ⟨8, rfl, by kernel_rfl⟩, fun b p g hS h => ?_⟩
    have e0 := (show b.eval (.tmp 64) = .agg (S2 : List Value).toArray from h.rd 9 _ _ 64 (by kernel_rfl) rfl rfl)
    have e1 := (show b.eval (.tmp 65) = .int .i64 n from h.rd 10 _ _ 65 (by kernel_rfl) rfl rfl)
    obtain ⟨hf, q0, q1⟩ := hS
    refine opV_func _ (by simp only [List.getElem?_toArray, List.getElem?_cons_succ, List.getElem?_cons_zero]; rfl) (wanted_some 5 true 60 rfl (by simp only [List.getElem?_toArray, List.getElem?_cons_succ, List.getElem?_cons_zero]; rfl) (by rw [h.size, hsz]; decide) (h.rd 5 _ _ 60 (by kernel_rfl) rfl rfl)) 15 _ _ rfl #[.agg (S2 : List Value).toArray, .int .i64 n] (by simp only [List.map_toArray, List.map_cons, List.map_nil, e0, e1]) (by simp [go_sem]) ((hD p hf).mono ?_)
    rintro e p' ⟨rfl, hf'⟩
    exact ⟨_, rfl, ⟨hf.trans hf', fun _ => (Vs.keep0 ((q0 (by decide))) hf'), fun _ => (Vs.keep0 ((q1 (by decide))) hf')⟩, .inr rfl⟩
  · refine ⟨⟨67, rfl⟩, .inl rfl, fun b p s g hs hlow hS h => ?_⟩
    have e0 := (show b.eval (.tmp 63) = .string S from h.st 8 _ 63 (by kernel_rfl) rfl rfl)
    have e1 := (show b.eval (.tmp 66) = .string S from h.st 11 _ 66 (by kernel_rfl) rfl rfl)
    have ec : ∀ v, b.eval (.const v) = v := fun _ => rfl
    refine ⟨_, by simp only [List.getElem?_toArray, List.getElem?_cons_succ, List.getElem?_cons_zero]; rfl, .inl ⟨(wanted_some 5 true 60 rfl (by simp only [List.getElem?_toArray, List.getElem?_cons_succ, List.getElem?_cons_zero]; rfl) (by rw [h.size, hsz]; decide) (h.rd 5 _ _ 60 (by kernel_rfl) rfl rfl)), ?_⟩⟩
    obtain ⟨ρ, hρ⟩ : ∃ ρ, b.eval = ρ := ⟨_, rfl⟩
    rw [hρ] at e0 e1 ec ⊢
    unfold execOp; simp [go_sem, e0, e1, ec]
  · refine ⟨⟨68, rfl⟩, .inl rfl, fun b p s g hs hlow hS h => ?_⟩
    have e0 := (show b.eval (.tmp 60) = .bool true from h.rd 5 _ _ 60 (by kernel_rfl) rfl rfl)
    have e1 := (show b.eval (.tmp 67) = .bool true from h.rd 12 _ _ 67 (by kernel_rfl) rfl rfl)
    have ec : ∀ v, b.eval (.const v) = v := fun _ => rfl
    refine ⟨_, by simp only [List.getElem?_toArray, List.getElem?_cons_succ, List.getElem?_cons_zero]; rfl, .inl ⟨(wanted_none rfl), ?_⟩⟩
    obtain ⟨ρ, hρ⟩ : ∃ ρ, b.eval = ρ := ⟨_, rfl⟩
    rw [hρ] at e0 e1 ec ⊢
    unfold execOp; simp [go_sem, e0, e1, ec]
  · refine ⟨⟨4, rfl⟩, .inl rfl, fun b p s g hs hlow hS h => ?_⟩
    have e0 := (show b.eval (.tmp 68) = .bool true from h.rd 13 _ _ 68 (by kernel_rfl) rfl rfl)
    have ec : ∀ v, b.eval (.const v) = v := fun _ => rfl
    refine ⟨_, by simp only [List.getElem?_toArray, List.getElem?_cons_succ, List.getElem?_cons_zero]; rfl, .inl ⟨(wanted_none rfl), ?_⟩⟩
    obtain ⟨ρ, hρ⟩ : ∃ ρ, b.eval = ρ := ⟨_, rfl⟩
    rw [hρ] at e0 ec ⊢
    unfold execOp; simp [go_sem, e0, ec]
  · intro b p h1 h2 h3 h4 h5
    obtain ⟨g, h4, h6⟩ := h4
    have r4 : slot b 4 = .bool true := h5 14 (.bool true) _ 4 rfl rfl
    exact hQ b p h1 (h2.trans hsz) (fun s hs => h3 s (fun hm => hs (by simpa using hm))) r4 h4.1
end Go.Proofs.YtdkhgpnidamalaaDoor
