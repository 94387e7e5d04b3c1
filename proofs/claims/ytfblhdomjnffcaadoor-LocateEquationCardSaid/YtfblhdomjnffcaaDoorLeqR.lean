/-
  The law LocateEquation: its last drawn regions. (printed by genleq.py)
-/
import Derived.Test.YtfblhdomjnffcaaDoorGB
import Derived.Test.YtfblhdomjnffcaaDoorStr
import Derived.Test.YtfblhdomjnffcaaDoorGD
import Derived.Deep.MidRow
namespace Go.Proofs.YtfblhdomjnffcaaDoor
open Go.RowKit Go.Bl
set_option linter.unusedVariables false
theorem run_aggQ {P : Program} {ρ : Operand → Value} {o : Oper} {w : World} {ty te : TypeId} {d : TypeDesc} {fz : Nat × Nat} (x : Operand) (ho : o.op = .load ty x) (bx : Nat) (c : Array Value) (hx : ρ x = .pointer (some ⟨bx, 0, none⟩)) (hc : At w bx (.cells c te fz)) (hu : P.underlying ty = some d) (hd : d.isRow = true) (hi : (P.info? ty).map (·.size) = some c.size) :
    (execOp ρ o).run P w = .ok (.value (.agg c)) w := by
  have hr : w.rangeAt bx 0 c.toList := fun j v hj => by rw [Nat.zero_add, hc.cell]; simpa using hj
  have := run_loadAt_mid (P := P) w bx 0 ty c.toList d hr hu hd (by simpa using hi)
  unfold execOp
  simp only [ho, hx, Sem.run_bind, this, Result.andThen_ok, Sem.run_pure]
set_option maxRecDepth 100000 in
theorem frame149 (a : Go.Act) (hs : a.tmps.size = 149) (hd : a.defers = []) : a = ⟨(slot a 0 :: slot a 1 :: slot a 2 :: slot a 3 :: slot a 4 :: slot a 5 :: slot a 6 :: slot a 7 :: slot a 8 :: slot a 9 :: slot a 10 :: slot a 11 :: slot a 12 :: slot a 13 :: slot a 14 :: slot a 15 :: slot a 16 :: slot a 17 :: slot a 18 :: slot a 19 :: slot a 20 :: slot a 21 :: slot a 22 :: slot a 23 :: slot a 24 :: slot a 25 :: slot a 26 :: slot a 27 :: slot a 28 :: slot a 29 :: slot a 30 :: slot a 31 :: slot a 32 :: slot a 33 :: slot a 34 :: slot a 35 :: slot a 36 :: slot a 37 :: slot a 38 :: slot a 39 :: slot a 40 :: slot a 41 :: slot a 42 :: slot a 43 :: slot a 44 :: slot a 45 :: slot a 46 :: slot a 47 :: slot a 48 :: slot a 49 :: slot a 50 :: slot a 51 :: slot a 52 :: slot a 53 :: slot a 54 :: slot a 55 :: slot a 56 :: slot a 57 :: slot a 58 :: slot a 59 :: slot a 60 :: slot a 61 :: slot a 62 :: slot a 63 :: slot a 64 :: slot a 65 :: slot a 66 :: slot a 67 :: slot a 68 :: slot a 69 :: slot a 70 :: slot a 71 :: slot a 72 :: slot a 73 :: slot a 74 :: slot a 75 :: slot a 76 :: slot a 77 :: slot a 78 :: slot a 79 :: slot a 80 :: slot a 81 :: slot a 82 :: slot a 83 :: slot a 84 :: slot a 85 :: slot a 86 :: slot a 87 :: slot a 88 :: slot a 89 :: slot a 90 :: slot a 91 :: slot a 92 :: slot a 93 :: slot a 94 :: slot a 95 :: slot a 96 :: slot a 97 :: slot a 98 :: slot a 99 :: slot a 100 :: slot a 101 :: slot a 102 :: slot a 103 :: slot a 104 :: slot a 105 :: slot a 106 :: slot a 107 :: slot a 108 :: slot a 109 :: slot a 110 :: slot a 111 :: slot a 112 :: slot a 113 :: slot a 114 :: slot a 115 :: slot a 116 :: slot a 117 :: slot a 118 :: slot a 119 :: slot a 120 :: slot a 121 :: slot a 122 :: slot a 123 :: slot a 124 :: slot a 125 :: slot a 126 :: slot a 127 :: slot a 128 :: slot a 129 :: slot a 130 :: slot a 131 :: slot a 132 :: slot a 133 :: slot a 134 :: slot a 135 :: slot a 136 :: slot a 137 :: slot a 138 :: slot a 139 :: slot a 140 :: slot a 141 :: slot a 142 :: slot a 143 :: slot a 144 :: slot a 145 :: slot a 146 :: slot a 147 :: slot a 148 :: []).toArray, []⟩ := frameX a 149 hs hd

noncomputable def leq_allR : Code := ((Tryd.f7.body.bind (findRegionC 25)).getD .skip)
set_option maxRecDepth 1000000 in
set_option maxHeartbeats 8000000 in
theorem leq_all (w : World) (a : Go.Act) (hsz : a.tmps.size = 149) (sb fb un uc : Nat) (ua : Option Addr) (SC : Array Value) (sp al ev : List UInt8) (hA : At w sb (.cells SC 42 (0, 0))) (hcs : SC.size = 32) (hc1 : w.cell? ⟨fb, 1, none⟩ = some (.slice ua un uc)) (hpo : ∀ p, Fr [] w p → Calls Tryd.prog 36 #[.agg SC] p fun e w' => ∃ u, e = .returned u ∧ OwnB 5 p.heap.size w' u sp ∧ Fr [] p w') (hmu : ∀ p v, Fr [] w p → OwnB 5 w.heap.size p v sp → Calls Tryd.prog 35 #[v, .slice ua un uc] p fun e w' => ∃ u, e = .returned u ∧ OwnB 5 p.heap.size w' u al ∧ Fr [] p w') (hlo : ∀ p v, Fr [] w p → OwnB 5 w.heap.size p v al → Calls Tryd.prog 34 #[v, .int .i64 32] p fun e w' => ∃ u, e = .returned u ∧ OwnB 5 p.heap.size w' u ev ∧ Fr [] p w') (h12 : slot a 12 = .pointer (some ⟨sb, 0, none⟩)) (h13 : slot a 13 = .pointer (some ⟨fb, 0, none⟩)) (Q : Exit → Go.Act → World → Prop)
    (hQ : ∀ (b : Go.Act) (p : World), b.defers = a.defers → b.tmps.size = 149 → (∀ s, s ∉ ([119, 120, 121, 122, 123, 124, 14] : List Nat) → slot b s = slot a s) → OwnB 5 w.heap.size p (slot b 14) ev → Fr [] w p → Q .normal b p) : Code.wp Tryd.prog leq_allR Q a w := by
  conv => arg 2; whnf
  refine wp_region_ghost (by kernel_rfl) (by kernel_rfl) [some 119, some 120, some 121, some 122, some 123, some 124, some 14] [1, 4, 5] [.rd (.agg SC) 3, .gh 0, .rd (.pointer (some ⟨fb, 1, none⟩)) 3, .rd (.slice ua un uc) 3, .gh 1, .gh 2, .mv 2] (fun cj => undef) (fun s g p => Fr [] w p ∧ (0 < s → OwnB 5 w.heap.size p (g 0) sp) ∧ (1 < s → OwnB 5 w.heap.size p (g 1) al) ∧ (2 < s → OwnB 5 w.heap.size p (g 2) ev)) (by kernel_rfl) (by rfl) (by rw [hsz]; rfl) (by kernel_rfl) (by kernel_rfl) (by decide) ?_ ⟨?_, ?_, ?_, ?_, ?_, ?_, ?_, trivial⟩ ?_
  · intro w1 hw1
    exact ⟨fun _ => undef, ⟨hw1, fun hk => absurd hk (by decide), fun hk => absurd hk (by decide), fun hk => absurd hk (by decide)⟩⟩
  · refine ⟨⟨119, rfl⟩, .inl rfl, fun b p s g hs hlow hS h => ?_⟩
    have e0 := (show b.eval (.tmp 12) = .pointer (some ⟨sb, 0, none⟩) from (h.old 12 (by decide)).trans h12)
    obtain ⟨hf, q0, q1, q2⟩ := hS
    refine ⟨_, by simp only [List.getElem?_toArray, List.getElem?_cons_succ, List.getElem?_cons_zero]; rfl, .inl ⟨(wanted_none rfl), run_aggQ (.tmp 12) rfl sb SC e0 (hA.keep0 hf) Tryd.underlying42 rfl (by rw [hcs]; kernel_rfl)⟩⟩
  · refine ⟨rfl, .inl rfl, fun b p g hS h => ?_⟩
    have e0 := (show b.eval (.tmp 119) = .agg SC from h.rd 0 _ _ 119 (by kernel_rfl) rfl rfl)
    obtain ⟨hf, q0, q1, q2⟩ := hS
    refine opV_func _ (by simp only [List.getElem?_toArray, List.getElem?_cons_succ, List.getElem?_cons_zero]; rfl) (wanted_none rfl) 36 _ _ rfl #[.agg SC] (by simp only [List.map_toArray, List.map_cons, List.map_nil, e0]) (by simp [go_sem]) ((hpo p hf).mono ?_)
    rintro e p' ⟨u, rfl, ho, hf'⟩
    exact ⟨_, rfl, ⟨hf.trans hf', fun _ => ho.base hf.size, fun hk => absurd hk (by decide), fun hk => absurd hk (by decide)⟩⟩
  · refine ⟨⟨121, rfl⟩, .inl rfl, fun b p s g hs hlow hS h => ?_⟩
    have e0 := (show b.eval (.tmp 13) = .pointer (some ⟨fb, 0, none⟩) from (h.old 13 (by decide)).trans h13)
    have ec : ∀ v, b.eval (.const v) = v := fun _ => rfl
    refine ⟨_, by simp only [List.getElem?_toArray, List.getElem?_cons_succ, List.getElem?_cons_zero]; rfl, .inl ⟨(wanted_none rfl), ?_⟩⟩
    obtain ⟨ρ, hρ⟩ : ∃ ρ, b.eval = ρ := ⟨_, rfl⟩
    rw [hρ] at e0 ec ⊢
    unfold execOp; simp [go_sem, e0, ec]
  · refine ⟨⟨122, rfl⟩, .inl rfl, fun b p s g hs hlow hS h => ?_⟩
    have e0 := (show b.eval (.tmp 121) = .pointer (some ⟨fb, 1, none⟩) from h.rd 2 _ _ 121 (by kernel_rfl) rfl rfl)
    obtain ⟨hf, q0, q1, q2⟩ := hS
    have c0 := (show p.cell? ⟨fb, 1, none⟩ = some (.slice ua un uc) from (cell_mono hf hc1))
    have ec : ∀ v, b.eval (.const v) = v := fun _ => rfl
    refine ⟨_, by simp only [List.getElem?_toArray, List.getElem?_cons_succ, List.getElem?_cons_zero]; rfl, .inl ⟨(wanted_none rfl), ?_⟩⟩
    obtain ⟨ρ, hρ⟩ : ∃ ρ, b.eval = ρ := ⟨_, rfl⟩
    rw [hρ] at e0 ec ⊢
    unfold execOp; simp [go_sem, e0, ec, c0]
  · refine ⟨rfl, .inr ⟨1, rfl, by kernel_rfl⟩, fun b p g hS h => ?_⟩
    have e0 := (show b.eval (.tmp 120) = g 0 from h.gh 1 _ 120 (by kernel_rfl) rfl rfl)
    have e1 := (show b.eval (.tmp 122) = .slice ua un uc from h.rd 3 _ _ 122 (by kernel_rfl) rfl rfl)
    obtain ⟨hf, q0, q1, q2⟩ := hS
    refine opV_func _ (by simp only [List.getElem?_toArray, List.getElem?_cons_succ, List.getElem?_cons_zero]; rfl) (wanted_none rfl) 35 _ _ rfl #[g 0, .slice ua un uc] (by simp only [List.map_toArray, List.map_cons, List.map_nil, e0, e1]) (by simp [go_sem]) ((hmu p _ hf (q0 (by decide))).mono ?_)
    rintro e p' ⟨u, rfl, ho, hf'⟩
    exact ⟨_, rfl, ⟨hf.trans hf', fun _ => (q0 (by decide)).keep hf' (by simp), fun _ => ho.base hf.size, fun hk => absurd hk (by decide)⟩⟩
  · refine ⟨rfl, .inr ⟨4, rfl, by kernel_rfl⟩, fun b p g hS h => ?_⟩
    have e0 := (show b.eval (.tmp 123) = g 1 from h.gh 4 _ 123 (by kernel_rfl) rfl rfl)
    have e1 : b.eval (.const (.int .i64 32)) = .int .i64 32 := rfl
    obtain ⟨hf, q0, q1, q2⟩ := hS
    refine opV_func _ (by simp only [List.getElem?_toArray, List.getElem?_cons_succ, List.getElem?_cons_zero]; rfl) (wanted_none rfl) 34 _ _ rfl #[g 1, .int .i64 32] (by simp only [List.map_toArray, List.map_cons, List.map_nil, e0, e1]) (by simp [go_sem]) ((hlo p _ hf (q1 (by decide))).mono ?_)
    rintro e p' ⟨u, rfl, ho, hf'⟩
    exact ⟨_, rfl, ⟨hf.trans hf', fun _ => (q0 (by decide)).keep hf' (by simp), fun _ => (q1 (by decide)).keep hf' (by simp), fun _ => ho.base hf.size⟩⟩
  · refine ⟨⟨14, rfl⟩, ⟨5, rfl, by kernel_rfl⟩, fun b p s g hlow hS h => ?_⟩
    have e0 := (show b.eval (.tmp 124) = g 2 from h.gh 5 _ 124 (by kernel_rfl) rfl rfl)
    refine ⟨_, by simp only [List.getElem?_toArray, List.getElem?_cons_succ, List.getElem?_cons_zero]; rfl, (wanted_none rfl), ?_⟩
    obtain ⟨ρ, hρ⟩ : ∃ ρ, b.eval = ρ := ⟨_, rfl⟩
    rw [hρ] at e0 ⊢
    unfold execOp; simp [go_sem, e0]
  · intro b p h1 h2 h3 h4 h5
    obtain ⟨g, h4, h6⟩ := h4
    obtain ⟨hf, q0, q1, q2⟩ := h4
    have g14 : slot b 14 = g 2 := h6 6 2 14 (.inr rfl) rfl
    exact hQ b p h1 (h2.trans hsz) (fun s hs => h3 s (fun hm => hs (by simpa using hm))) (by rw [g14]; exact q2 (by decide)) hf

noncomputable def leq_fin0R : Code := ((Tryd.f7.body.bind (findRegionC 26)).getD .skip)
set_option maxRecDepth 1000000 in
set_option maxHeartbeats 8000000 in
theorem leq_fin0 (w : World) (a : Go.Act) (hsz : a.tmps.size = 149) (fb un uc ec : Nat) (ua ea : Option Addr) (lv : Value) (ev : List UInt8) (S : ByteArray) (dE dL : Int) (hSS : (⟨ev.toArray⟩ : ByteArray) = S) (hlt : dE < dL) (hc1 : w.cell? ⟨fb, 1, none⟩ = some (.slice ua un uc)) (hc2 : w.cell? ⟨fb, 2, none⟩ = some (.slice ea 0 ec)) (hl : Bs (fun _ => False) w lv ev) (he : Bs (fun _ => False) w (.slice ea 0 ec) ev) (hde : ∀ p, Fr [] w p → Calls Tryd.prog 33 #[.slice ea 0 ec] p fun e w' => e = .returned (.int .i64 dE) ∧ Fr [] p w') (hdl : ∀ p, Fr [] w p → Calls Tryd.prog 33 #[.slice ua un uc] p fun e w' => e = .returned (.int .i64 dL) ∧ Fr [] p w') (h14 : slot a 14 = lv) (h13 : slot a 13 = .pointer (some ⟨fb, 0, none⟩)) (h8 : slot a 8 = .int .i64 0) (Q : Exit → Go.Act → World → Prop)
    (hQ : ∀ (b : Go.Act) (p : World), b.defers = a.defers → b.tmps.size = 149 → (∀ s, s ∉ ([125, 126, 127, 128, 129, 130, 131, 132, 133, 134, 135, 136, 137, 138, 139, 140, 141, 142, 143, 144, 145, 146, 147, 148, 4] : List Nat) → slot b s = slot a s) → slot b 4 = .bool true → Fr [] w p → Q .normal b p) : Code.wp Tryd.prog leq_fin0R Q a w := by
  conv => arg 2; whnf
  refine wp_region_ghost (by kernel_rfl) (by kernel_rfl) [some 125, some 126, some 127, some 128, some 129, some 130, some 131, some 132, some 133, some 134, some 135, some 136, some 137, some 138, some 139, some 140, some 141, some 142, some 143, some 144, some 145, some 146, some 147, some 148, some 4] [9, 12] [.rd (lv) 2, .rd (.string S) 2, .rd (.pointer (some ⟨fb, 2, none⟩)) 2, .rd (.slice ea 0 ec) 2, .rd (.string S) 2, .rd (.bool true) 2, .rd (.bool true) 2, .rd (.pointer (some ⟨fb, 2, none⟩)) 2, .rd (.slice ea 0 ec) 2, .st 0, .rd (.pointer (some ⟨fb, 1, none⟩)) 2, .rd (.slice ua un uc) 2, .st 1, .rd (.bool true) 2, .rd (.bool true) 2, .rd (.bool true) 2, .rd (.pointer (some ⟨fb, 2, none⟩)) 2, .rd (.slice ea 0 ec) 2, .rd (.int .i64 (0 : Int)) 2, .rd (.bool true) 2, .rd (.int .i64 0) 2, .rd (.bool true) 2, .rd (.bool true) 2, .rd (.bool true) 2, .rd (.bool true) 2] (fun cj => if cj = 0 then (.int .i64 dE) else if cj = 1 then (.int .i64 dL) else undef) (fun s g p => Fr [] w p) (by kernel_rfl) (by rfl) (by rw [hsz]; rfl) (by kernel_rfl) (by kernel_rfl) (by decide) ?_ ⟨?_, ?_, ?_, ?_, ?_, ?_, ?_, ?_, ?_, ?_, ?_, ?_, ?_, ?_, ?_, ?_, ?_, ?_, ?_, ?_, ?_, ?_, ?_, ?_, ?_, trivial⟩ ?_
  · intro w1 hw1
    exact ⟨fun _ => undef, hw1⟩
  · refine ⟨⟨125, rfl⟩, .inl rfl, fun b p s g hs hlow hS h => ?_⟩
    have e0 := (show b.eval (.tmp 14) = lv from (h.old 14 (by decide)).trans h14)
    have ec : ∀ v, b.eval (.const v) = v := fun _ => rfl
    refine ⟨_, by simp only [List.getElem?_toArray, List.getElem?_cons_succ, List.getElem?_cons_zero]; rfl, .inl ⟨(wanted_none rfl), ?_⟩⟩
    obtain ⟨ρ, hρ⟩ : ∃ ρ, b.eval = ρ := ⟨_, rfl⟩
    rw [hρ] at e0 ec ⊢
    unfold execOp; simp [go_sem, e0, ec]
  · refine ⟨⟨126, rfl⟩, .inl rfl, fun b p s g hs hlow hS h => ?_⟩
    have e0 := (show b.eval (.tmp 125) = lv from h.rd 0 _ _ 125 (by kernel_rfl) rfl rfl)
    have hf := hS
    exact ⟨_, by simp only [List.getElem?_toArray, List.getElem?_cons_succ, List.getElem?_cons_zero]; rfl, .inl ⟨(wanted_none rfl), run_strO (src := 22) (dst := 9) Tryd.underlying22 Tryd.underlying5 Tryd.underlying9 (.tmp 125) rfl e0 (hl.keep hf (by simp)) S hSS⟩⟩
  · refine ⟨⟨127, rfl⟩, .inl rfl, fun b p s g hs hlow hS h => ?_⟩
    have e0 := (show b.eval (.tmp 13) = .pointer (some ⟨fb, 0, none⟩) from (h.old 13 (by decide)).trans h13)
    have ec : ∀ v, b.eval (.const v) = v := fun _ => rfl
    refine ⟨_, by simp only [List.getElem?_toArray, List.getElem?_cons_succ, List.getElem?_cons_zero]; rfl, .inl ⟨(wanted_none rfl), ?_⟩⟩
    obtain ⟨ρ, hρ⟩ : ∃ ρ, b.eval = ρ := ⟨_, rfl⟩
    rw [hρ] at e0 ec ⊢
    unfold execOp; simp [go_sem, e0, ec]
  · refine ⟨⟨128, rfl⟩, .inl rfl, fun b p s g hs hlow hS h => ?_⟩
    have e0 := (show b.eval (.tmp 127) = .pointer (some ⟨fb, 2, none⟩) from h.rd 2 _ _ 127 (by kernel_rfl) rfl rfl)
    have hf := hS
    have c0 := (show p.cell? ⟨fb, 2, none⟩ = some (.slice ea 0 ec) from (cell_mono hf hc2))
    have ec : ∀ v, b.eval (.const v) = v := fun _ => rfl
    refine ⟨_, by simp only [List.getElem?_toArray, List.getElem?_cons_succ, List.getElem?_cons_zero]; rfl, .inl ⟨(wanted_none rfl), ?_⟩⟩
    obtain ⟨ρ, hρ⟩ : ∃ ρ, b.eval = ρ := ⟨_, rfl⟩
    rw [hρ] at e0 ec ⊢
    unfold execOp; simp [go_sem, e0, ec, c0]
  · refine ⟨⟨129, rfl⟩, .inl rfl, fun b p s g hs hlow hS h => ?_⟩
    have e0 := (show b.eval (.tmp 128) = .slice ea 0 ec from h.rd 3 _ _ 128 (by kernel_rfl) rfl rfl)
    have hf := hS
    exact ⟨_, by simp only [List.getElem?_toArray, List.getElem?_cons_succ, List.getElem?_cons_zero]; rfl, .inl ⟨(wanted_none rfl), run_strO (src := 22) (dst := 9) Tryd.underlying22 Tryd.underlying5 Tryd.underlying9 (.tmp 128) rfl e0 (he.keep hf (by simp)) S hSS⟩⟩
  · refine ⟨⟨130, rfl⟩, .inl rfl, fun b p s g hs hlow hS h => ?_⟩
    have e0 := (show b.eval (.tmp 126) = .string S from h.rd 1 _ _ 126 (by kernel_rfl) rfl rfl)
    have e1 := (show b.eval (.tmp 129) = .string S from h.rd 4 _ _ 129 (by kernel_rfl) rfl rfl)
    have ec : ∀ v, b.eval (.const v) = v := fun _ => rfl
    refine ⟨_, by simp only [List.getElem?_toArray, List.getElem?_cons_succ, List.getElem?_cons_zero]; rfl, .inl ⟨(wanted_none rfl), ?_⟩⟩
    obtain ⟨ρ, hρ⟩ : ∃ ρ, b.eval = ρ := ⟨_, rfl⟩
    rw [hρ] at e0 e1 ec ⊢
    unfold execOp; simp [go_sem, e0, e1, ec]
  · refine ⟨⟨131, rfl⟩, .inl rfl, fun b p s g hs hlow hS h => ?_⟩
    have e0 := (show b.eval (.tmp 130) = .bool true from h.rd 5 _ _ 130 (by kernel_rfl) rfl rfl)
    have ec : ∀ v, b.eval (.const v) = v := fun _ => rfl
    refine ⟨_, by simp only [List.getElem?_toArray, List.getElem?_cons_succ, List.getElem?_cons_zero]; rfl, .inl ⟨(wanted_none rfl), ?_⟩⟩
    obtain ⟨ρ, hρ⟩ : ∃ ρ, b.eval = ρ := ⟨_, rfl⟩
    rw [hρ] at e0 ec ⊢
    unfold execOp; simp [go_sem, e0, ec]
  · refine ⟨⟨132, rfl⟩, .inl rfl, fun b p s g hs hlow hS h => ?_⟩
    have e0 := (show b.eval (.tmp 13) = .pointer (some ⟨fb, 0, none⟩) from (h.old 13 (by decide)).trans h13)
    have ec : ∀ v, b.eval (.const v) = v := fun _ => rfl
    refine ⟨_, by simp only [List.getElem?_toArray, List.getElem?_cons_succ, List.getElem?_cons_zero]; rfl, .inl ⟨(wanted_some 6 true 131 rfl (by simp only [List.getElem?_toArray, List.getElem?_cons_succ, List.getElem?_cons_zero]; rfl) (by rw [h.size, hsz]; decide) (h.rd 6 _ _ 131 (by kernel_rfl) rfl rfl)), ?_⟩⟩
    obtain ⟨ρ, hρ⟩ : ∃ ρ, b.eval = ρ := ⟨_, rfl⟩
    rw [hρ] at e0 ec ⊢
    unfold execOp; simp [go_sem, e0, ec]
  · refine ⟨⟨133, rfl⟩, .inl rfl, fun b p s g hs hlow hS h => ?_⟩
    have e0 := (show b.eval (.tmp 132) = .pointer (some ⟨fb, 2, none⟩) from h.rd 7 _ _ 132 (by kernel_rfl) rfl rfl)
    have hf := hS
    have c0 := (show p.cell? ⟨fb, 2, none⟩ = some (.slice ea 0 ec) from (cell_mono hf hc2))
    have ec : ∀ v, b.eval (.const v) = v := fun _ => rfl
    refine ⟨_, by simp only [List.getElem?_toArray, List.getElem?_cons_succ, List.getElem?_cons_zero]; rfl, .inl ⟨(wanted_some 6 true 131 rfl (by simp only [List.getElem?_toArray, List.getElem?_cons_succ, List.getElem?_cons_zero]; rfl) (by rw [h.size, hsz]; decide) (h.rd 6 _ _ 131 (by kernel_rfl) rfl rfl)), ?_⟩⟩
    obtain ⟨ρ, hρ⟩ : ∃ ρ, b.eval = ρ := ⟨_, rfl⟩
    rw [hρ] at e0 ec ⊢
    unfold execOp; simp [go_sem, e0, ec, c0]
  · refine ⟨rfl, .inl rfl, fun b p g hS h => ?_⟩
    have e0 := (show b.eval (.tmp 133) = .slice ea 0 ec from h.rd 8 _ _ 133 (by kernel_rfl) rfl rfl)
    have hf := hS
    refine opV_func _ (by simp only [List.getElem?_toArray, List.getElem?_cons_succ, List.getElem?_cons_zero]; rfl) (wanted_some 6 true 131 rfl (by simp only [List.getElem?_toArray, List.getElem?_cons_succ, List.getElem?_cons_zero]; rfl) (by rw [h.size, hsz]; decide) (h.rd 6 _ _ 131 (by kernel_rfl) rfl rfl)) 33 _ _ rfl #[.slice ea 0 ec] (by simp only [List.map_toArray, List.map_cons, List.map_nil, e0]) (by simp [go_sem]) ((hde p hf).mono ?_)
    rintro e p' ⟨rfl, hf'⟩
    exact ⟨_, rfl, hf.trans hf', .inr rfl⟩
  · refine ⟨⟨135, rfl⟩, .inl rfl, fun b p s g hs hlow hS h => ?_⟩
    have e0 := (show b.eval (.tmp 13) = .pointer (some ⟨fb, 0, none⟩) from (h.old 13 (by decide)).trans h13)
    have ec : ∀ v, b.eval (.const v) = v := fun _ => rfl
    refine ⟨_, by simp only [List.getElem?_toArray, List.getElem?_cons_succ, List.getElem?_cons_zero]; rfl, .inl ⟨(wanted_some 6 true 131 rfl (by simp only [List.getElem?_toArray, List.getElem?_cons_succ, List.getElem?_cons_zero]; rfl) (by rw [h.size, hsz]; decide) (h.rd 6 _ _ 131 (by kernel_rfl) rfl rfl)), ?_⟩⟩
    obtain ⟨ρ, hρ⟩ : ∃ ρ, b.eval = ρ := ⟨_, rfl⟩
    rw [hρ] at e0 ec ⊢
    unfold execOp; simp [go_sem, e0, ec]
  · refine ⟨⟨136, rfl⟩, .inl rfl, fun b p s g hs hlow hS h => ?_⟩
    have e0 := (show b.eval (.tmp 135) = .pointer (some ⟨fb, 1, none⟩) from h.rd 10 _ _ 135 (by kernel_rfl) rfl rfl)
    have hf := hS
    have c0 := (show p.cell? ⟨fb, 1, none⟩ = some (.slice ua un uc) from (cell_mono hf hc1))
    have ec : ∀ v, b.eval (.const v) = v := fun _ => rfl
    refine ⟨_, by simp only [List.getElem?_toArray, List.getElem?_cons_succ, List.getElem?_cons_zero]; rfl, .inl ⟨(wanted_some 6 true 131 rfl (by simp only [List.getElem?_toArray, List.getElem?_cons_succ, List.getElem?_cons_zero]; rfl) (by rw [h.size, hsz]; decide) (h.rd 6 _ _ 131 (by kernel_rfl) rfl rfl)), ?_⟩⟩
    obtain ⟨ρ, hρ⟩ : ∃ ρ, b.eval = ρ := ⟨_, rfl⟩
    rw [hρ] at e0 ec ⊢
    unfold execOp; simp [go_sem, e0, ec, c0]
  · refine ⟨rfl, .inr ⟨9, rfl, by kernel_rfl⟩, fun b p g hS h => ?_⟩
    have e0 := (show b.eval (.tmp 136) = .slice ua un uc from h.rd 11 _ _ 136 (by kernel_rfl) rfl rfl)
    have hf := hS
    refine opV_func _ (by simp only [List.getElem?_toArray, List.getElem?_cons_succ, List.getElem?_cons_zero]; rfl) (wanted_some 6 true 131 rfl (by simp only [List.getElem?_toArray, List.getElem?_cons_succ, List.getElem?_cons_zero]; rfl) (by rw [h.size, hsz]; decide) (h.rd 6 _ _ 131 (by kernel_rfl) rfl rfl)) 33 _ _ rfl #[.slice ua un uc] (by simp only [List.map_toArray, List.map_cons, List.map_nil, e0]) (by simp [go_sem]) ((hdl p hf).mono ?_)
    rintro e p' ⟨rfl, hf'⟩
    exact ⟨_, rfl, hf.trans hf', .inr rfl⟩
  · refine ⟨⟨138, rfl⟩, .inl rfl, fun b p s g hs hlow hS h => ?_⟩
    have e0 := (show b.eval (.tmp 134) = .int .i64 dE from h.st 9 _ 134 (by kernel_rfl) rfl rfl)
    have e1 := (show b.eval (.tmp 137) = .int .i64 dL from h.st 12 _ 137 (by kernel_rfl) rfl rfl)
    have ec : ∀ v, b.eval (.const v) = v := fun _ => rfl
    refine ⟨_, by simp only [List.getElem?_toArray, List.getElem?_cons_succ, List.getElem?_cons_zero]; rfl, .inl ⟨(wanted_some 6 true 131 rfl (by simp only [List.getElem?_toArray, List.getElem?_cons_succ, List.getElem?_cons_zero]; rfl) (by rw [h.size, hsz]; decide) (h.rd 6 _ _ 131 (by kernel_rfl) rfl rfl)), ?_⟩⟩
    obtain ⟨ρ, hρ⟩ : ∃ ρ, b.eval = ρ := ⟨_, rfl⟩
    rw [hρ] at e0 e1 ec ⊢
    unfold execOp; simp [go_sem, e0, e1, ec, hlt]
  · refine ⟨⟨139, rfl⟩, .inl rfl, fun b p s g hs hlow hS h => ?_⟩
    have e0 := (show b.eval (.tmp 131) = .bool true from h.rd 6 _ _ 131 (by kernel_rfl) rfl rfl)
    have e1 := (show b.eval (.tmp 138) = .bool true from h.rd 13 _ _ 138 (by kernel_rfl) rfl rfl)
    have ec : ∀ v, b.eval (.const v) = v := fun _ => rfl
    refine ⟨_, by simp only [List.getElem?_toArray, List.getElem?_cons_succ, List.getElem?_cons_zero]; rfl, .inl ⟨(wanted_none rfl), ?_⟩⟩
    obtain ⟨ρ, hρ⟩ : ∃ ρ, b.eval = ρ := ⟨_, rfl⟩
    rw [hρ] at e0 e1 ec ⊢
    unfold execOp; simp [go_sem, e0, e1, ec]
  · refine ⟨⟨140, rfl⟩, .inl rfl, fun b p s g hs hlow hS h => ?_⟩
    have e0 := (show b.eval (.tmp 139) = .bool true from h.rd 14 _ _ 139 (by kernel_rfl) rfl rfl)
    have ec : ∀ v, b.eval (.const v) = v := fun _ => rfl
    refine ⟨_, by simp only [List.getElem?_toArray, List.getElem?_cons_succ, List.getElem?_cons_zero]; rfl, .inl ⟨(wanted_none rfl), ?_⟩⟩
    obtain ⟨ρ, hρ⟩ : ∃ ρ, b.eval = ρ := ⟨_, rfl⟩
    rw [hρ] at e0 ec ⊢
    unfold execOp; simp [go_sem, e0, ec]
  · refine ⟨⟨141, rfl⟩, .inl rfl, fun b p s g hs hlow hS h => ?_⟩
    have e0 := (show b.eval (.tmp 13) = .pointer (some ⟨fb, 0, none⟩) from (h.old 13 (by decide)).trans h13)
    have ec : ∀ v, b.eval (.const v) = v := fun _ => rfl
    refine ⟨_, by simp only [List.getElem?_toArray, List.getElem?_cons_succ, List.getElem?_cons_zero]; rfl, .inl ⟨(wanted_some 15 true 140 rfl (by simp only [List.getElem?_toArray, List.getElem?_cons_succ, List.getElem?_cons_zero]; rfl) (by rw [h.size, hsz]; decide) (h.rd 15 _ _ 140 (by kernel_rfl) rfl rfl)), ?_⟩⟩
    obtain ⟨ρ, hρ⟩ : ∃ ρ, b.eval = ρ := ⟨_, rfl⟩
    rw [hρ] at e0 ec ⊢
    unfold execOp; simp [go_sem, e0, ec]
  · refine ⟨⟨142, rfl⟩, .inl rfl, fun b p s g hs hlow hS h => ?_⟩
    have e0 := (show b.eval (.tmp 141) = .pointer (some ⟨fb, 2, none⟩) from h.rd 16 _ _ 141 (by kernel_rfl) rfl rfl)
    have hf := hS
    have c0 := (show p.cell? ⟨fb, 2, none⟩ = some (.slice ea 0 ec) from (cell_mono hf hc2))
    have ec : ∀ v, b.eval (.const v) = v := fun _ => rfl
    refine ⟨_, by simp only [List.getElem?_toArray, List.getElem?_cons_succ, List.getElem?_cons_zero]; rfl, .inl ⟨(wanted_some 15 true 140 rfl (by simp only [List.getElem?_toArray, List.getElem?_cons_succ, List.getElem?_cons_zero]; rfl) (by rw [h.size, hsz]; decide) (h.rd 15 _ _ 140 (by kernel_rfl) rfl rfl)), ?_⟩⟩
    obtain ⟨ρ, hρ⟩ : ∃ ρ, b.eval = ρ := ⟨_, rfl⟩
    rw [hρ] at e0 ec ⊢
    unfold execOp; simp [go_sem, e0, ec, c0]
  · refine ⟨⟨143, rfl⟩, .inl rfl, fun b p s g hs hlow hS h => ?_⟩
    have e0 := (show b.eval (.tmp 142) = .slice ea 0 ec from h.rd 17 _ _ 142 (by kernel_rfl) rfl rfl)
    have ec : ∀ v, b.eval (.const v) = v := fun _ => rfl
    refine ⟨_, by simp only [List.getElem?_toArray, List.getElem?_cons_succ, List.getElem?_cons_zero]; rfl, .inl ⟨(wanted_some 15 true 140 rfl (by simp only [List.getElem?_toArray, List.getElem?_cons_succ, List.getElem?_cons_zero]; rfl) (by rw [h.size, hsz]; decide) (h.rd 15 _ _ 140 (by kernel_rfl) rfl rfl)), ?_⟩⟩
    obtain ⟨ρ, hρ⟩ : ∃ ρ, b.eval = ρ := ⟨_, rfl⟩
    rw [hρ] at e0 ec ⊢
    unfold execOp; simp [go_sem, e0, ec]
  · refine ⟨⟨144, rfl⟩, .inl rfl, fun b p s g hs hlow hS h => ?_⟩
    have e0 := (show b.eval (.tmp 143) = .int .i64 (0 : Int) from h.rd 18 _ _ 143 (by kernel_rfl) rfl rfl)
    have ec : ∀ v, b.eval (.const v) = v := fun _ => rfl
    refine ⟨_, by simp only [List.getElem?_toArray, List.getElem?_cons_succ, List.getElem?_cons_zero]; rfl, .inl ⟨(wanted_some 15 true 140 rfl (by simp only [List.getElem?_toArray, List.getElem?_cons_succ, List.getElem?_cons_zero]; rfl) (by rw [h.size, hsz]; decide) (h.rd 15 _ _ 140 (by kernel_rfl) rfl rfl)), ?_⟩⟩
    obtain ⟨ρ, hρ⟩ : ∃ ρ, b.eval = ρ := ⟨_, rfl⟩
    rw [hρ] at e0 ec ⊢
    unfold execOp; simp [go_sem, e0, ec]
  · refine ⟨⟨145, rfl⟩, .inl rfl, fun b p s g hs hlow hS h => ?_⟩
    have e0 := (show b.eval (.tmp 8) = .int .i64 0 from (h.old 8 (by decide)).trans h8)
    have ec : ∀ v, b.eval (.const v) = v := fun _ => rfl
    refine ⟨_, by simp only [List.getElem?_toArray, List.getElem?_cons_succ, List.getElem?_cons_zero]; rfl, .inl ⟨(wanted_some 15 true 140 rfl (by simp only [List.getElem?_toArray, List.getElem?_cons_succ, List.getElem?_cons_zero]; rfl) (by rw [h.size, hsz]; decide) (h.rd 15 _ _ 140 (by kernel_rfl) rfl rfl)), ?_⟩⟩
    obtain ⟨ρ, hρ⟩ : ∃ ρ, b.eval = ρ := ⟨_, rfl⟩
    rw [hρ] at e0 ec ⊢
    unfold execOp; simp [go_sem, e0, ec]
  · refine ⟨⟨146, rfl⟩, .inl rfl, fun b p s g hs hlow hS h => ?_⟩
    have e0 := (show b.eval (.tmp 145) = .int .i64 0 from h.rd 20 _ _ 145 (by kernel_rfl) rfl rfl)
    have ec : ∀ v, b.eval (.const v) = v := fun _ => rfl
    refine ⟨_, by simp only [List.getElem?_toArray, List.getElem?_cons_succ, List.getElem?_cons_zero]; rfl, .inl ⟨(wanted_some 15 true 140 rfl (by simp only [List.getElem?_toArray, List.getElem?_cons_succ, List.getElem?_cons_zero]; rfl) (by rw [h.size, hsz]; decide) (h.rd 15 _ _ 140 (by kernel_rfl) rfl rfl)), ?_⟩⟩
    obtain ⟨ρ, hρ⟩ : ∃ ρ, b.eval = ρ := ⟨_, rfl⟩
    rw [hρ] at e0 ec ⊢
    unfold execOp; simp [go_sem, e0, ec]
  · refine ⟨⟨147, rfl⟩, .inl rfl, fun b p s g hs hlow hS h => ?_⟩
    have e0 := (show b.eval (.tmp 144) = .bool true from h.rd 19 _ _ 144 (by kernel_rfl) rfl rfl)
    have e1 := (show b.eval (.tmp 146) = .bool true from h.rd 21 _ _ 146 (by kernel_rfl) rfl rfl)
    have ec : ∀ v, b.eval (.const v) = v := fun _ => rfl
    refine ⟨_, by simp only [List.getElem?_toArray, List.getElem?_cons_succ, List.getElem?_cons_zero]; rfl, .inl ⟨(wanted_some 15 true 140 rfl (by simp only [List.getElem?_toArray, List.getElem?_cons_succ, List.getElem?_cons_zero]; rfl) (by rw [h.size, hsz]; decide) (h.rd 15 _ _ 140 (by kernel_rfl) rfl rfl)), ?_⟩⟩
    obtain ⟨ρ, hρ⟩ : ∃ ρ, b.eval = ρ := ⟨_, rfl⟩
    rw [hρ] at e0 e1 ec ⊢
    unfold execOp; simp [go_sem, e0, e1, ec]
  · refine ⟨⟨148, rfl⟩, .inl rfl, fun b p s g hs hlow hS h => ?_⟩
    have e0 := (show b.eval (.tmp 140) = .bool true from h.rd 15 _ _ 140 (by kernel_rfl) rfl rfl)
    have e1 := (show b.eval (.tmp 147) = .bool true from h.rd 22 _ _ 147 (by kernel_rfl) rfl rfl)
    have ec : ∀ v, b.eval (.const v) = v := fun _ => rfl
    refine ⟨_, by simp only [List.getElem?_toArray, List.getElem?_cons_succ, List.getElem?_cons_zero]; rfl, .inl ⟨(wanted_none rfl), ?_⟩⟩
    obtain ⟨ρ, hρ⟩ : ∃ ρ, b.eval = ρ := ⟨_, rfl⟩
    rw [hρ] at e0 e1 ec ⊢
    unfold execOp; simp [go_sem, e0, e1, ec]
  · refine ⟨⟨4, rfl⟩, .inl rfl, fun b p s g hs hlow hS h => ?_⟩
    have e0 := (show b.eval (.tmp 148) = .bool true from h.rd 23 _ _ 148 (by kernel_rfl) rfl rfl)
    have ec : ∀ v, b.eval (.const v) = v := fun _ => rfl
    refine ⟨_, by simp only [List.getElem?_toArray, List.getElem?_cons_succ, List.getElem?_cons_zero]; rfl, .inl ⟨(wanted_none rfl), ?_⟩⟩
    obtain ⟨ρ, hρ⟩ : ∃ ρ, b.eval = ρ := ⟨_, rfl⟩
    rw [hρ] at e0 ec ⊢
    unfold execOp; simp [go_sem, e0, ec]
  · intro b p h1 h2 h3 h4 h5
    obtain ⟨g, h4, h6⟩ := h4
    have r4 : slot b 4 = .bool true := h5 24 (.bool true) _ 4 rfl rfl
    exact hQ b p h1 (h2.trans hsz) (fun s hs => h3 s (fun hm => hs (by simpa using hm))) r4 h4

noncomputable def leq_fin1R : Code := ((Tryd.f7.body.bind (findRegionC 26)).getD .skip)
set_option maxRecDepth 1000000 in
set_option maxHeartbeats 8000000 in
theorem leq_fin1 (w : World) (a : Go.Act) (hsz : a.tmps.size = 149) (en many : Nat) (hen : 0 < en) (hmany : 0 < many) (fb un uc ec : Nat) (ua ea : Option Addr) (lv : Value) (ev : List UInt8) (S : ByteArray) (dE dL : Int) (hSS : (⟨ev.toArray⟩ : ByteArray) = S) (hlt : dE < dL) (hc1 : w.cell? ⟨fb, 1, none⟩ = some (.slice ua un uc)) (hc2 : w.cell? ⟨fb, 2, none⟩ = some (.slice ea en ec)) (hl : Bs (fun _ => False) w lv ev) (he : Bs (fun _ => False) w (.slice ea en ec) ev) (hde : ∀ p, Fr [] w p → Calls Tryd.prog 33 #[.slice ea en ec] p fun e w' => e = .returned (.int .i64 dE) ∧ Fr [] p w') (hdl : ∀ p, Fr [] w p → Calls Tryd.prog 33 #[.slice ua un uc] p fun e w' => e = .returned (.int .i64 dL) ∧ Fr [] p w') (h14 : slot a 14 = lv) (h13 : slot a 13 = .pointer (some ⟨fb, 0, none⟩)) (h8 : slot a 8 = .int .i64 (many : Int)) (Q : Exit → Go.Act → World → Prop)
    (hQ : ∀ (b : Go.Act) (p : World), b.defers = a.defers → b.tmps.size = 149 → (∀ s, s ∉ ([125, 126, 127, 128, 129, 130, 131, 132, 133, 134, 135, 136, 137, 138, 139, 140, 141, 142, 143, 144, 145, 146, 147, 148, 4] : List Nat) → slot b s = slot a s) → slot b 4 = .bool true → Fr [] w p → Q .normal b p) : Code.wp Tryd.prog leq_fin1R Q a w := by
  conv => arg 2; whnf
  refine wp_region_ghost (by kernel_rfl) (by kernel_rfl) [some 125, some 126, some 127, some 128, some 129, some 130, some 131, some 132, some 133, some 134, some 135, some 136, some 137, some 138, some 139, some 140, some 141, some 142, some 143, some 144, some 145, some 146, some 147, some 148, some 4] [9, 12] [.rd (lv) 2, .rd (.string S) 2, .rd (.pointer (some ⟨fb, 2, none⟩)) 2, .rd (.slice ea en ec) 2, .rd (.string S) 2, .rd (.bool true) 2, .rd (.bool true) 2, .rd (.pointer (some ⟨fb, 2, none⟩)) 2, .rd (.slice ea en ec) 2, .st 0, .rd (.pointer (some ⟨fb, 1, none⟩)) 2, .rd (.slice ua un uc) 2, .st 1, .rd (.bool true) 2, .rd (.bool true) 2, .rd (.bool true) 2, .rd (.pointer (some ⟨fb, 2, none⟩)) 2, .rd (.slice ea en ec) 2, .rd (.int .i64 (en : Int)) 2, .rd (.bool false) 2, .rd (.int .i64 (many : Int)) 2, .rd (.bool false) 2, .rd (.bool true) 2, .rd (.bool true) 2, .rd (.bool true) 2] (fun cj => if cj = 0 then (.int .i64 dE) else if cj = 1 then (.int .i64 dL) else undef) (fun s g p => Fr [] w p) (by kernel_rfl) (by rfl) (by rw [hsz]; rfl) (by kernel_rfl) (by kernel_rfl) (by decide) ?_ ⟨?_, ?_, ?_, ?_, ?_, ?_, ?_, ?_, ?_, ?_, ?_, ?_, ?_, ?_, ?_, ?_, ?_, ?_, ?_, ?_, ?_, ?_, ?_, ?_, ?_, trivial⟩ ?_
  · intro w1 hw1
    exact ⟨fun _ => undef, hw1⟩
  · refine ⟨⟨125, rfl⟩, .inl rfl, fun b p s g hs hlow hS h => ?_⟩
    have e0 := (show b.eval (.tmp 14) = lv from (h.old 14 (by decide)).trans h14)
    have ec : ∀ v, b.eval (.const v) = v := fun _ => rfl
    refine ⟨_, by simp only [List.getElem?_toArray, List.getElem?_cons_succ, List.getElem?_cons_zero]; rfl, .inl ⟨(wanted_none rfl), ?_⟩⟩
    obtain ⟨ρ, hρ⟩ : ∃ ρ, b.eval = ρ := ⟨_, rfl⟩
    rw [hρ] at e0 ec ⊢
    unfold execOp; simp [go_sem, e0, ec]
  · refine ⟨⟨126, rfl⟩, .inl rfl, fun b p s g hs hlow hS h => ?_⟩
    have e0 := (show b.eval (.tmp 125) = lv from h.rd 0 _ _ 125 (by kernel_rfl) rfl rfl)
    have hf := hS
    exact ⟨_, by simp only [List.getElem?_toArray, List.getElem?_cons_succ, List.getElem?_cons_zero]; rfl, .inl ⟨(wanted_none rfl), run_strO (src := 22) (dst := 9) Tryd.underlying22 Tryd.underlying5 Tryd.underlying9 (.tmp 125) rfl e0 (hl.keep hf (by simp)) S hSS⟩⟩
  · refine ⟨⟨127, rfl⟩, .inl rfl, fun b p s g hs hlow hS h => ?_⟩
    have e0 := (show b.eval (.tmp 13) = .pointer (some ⟨fb, 0, none⟩) from (h.old 13 (by decide)).trans h13)
    have ec : ∀ v, b.eval (.const v) = v := fun _ => rfl
    refine ⟨_, by simp only [List.getElem?_toArray, List.getElem?_cons_succ, List.getElem?_cons_zero]; rfl, .inl ⟨(wanted_none rfl), ?_⟩⟩
    obtain ⟨ρ, hρ⟩ : ∃ ρ, b.eval = ρ := ⟨_, rfl⟩
    rw [hρ] at e0 ec ⊢
    unfold execOp; simp [go_sem, e0, ec]
  · refine ⟨⟨128, rfl⟩, .inl rfl, fun b p s g hs hlow hS h => ?_⟩
    have e0 := (show b.eval (.tmp 127) = .pointer (some ⟨fb, 2, none⟩) from h.rd 2 _ _ 127 (by kernel_rfl) rfl rfl)
    have hf := hS
    have c0 := (show p.cell? ⟨fb, 2, none⟩ = some (.slice ea en ec) from (cell_mono hf hc2))
    have ec : ∀ v, b.eval (.const v) = v := fun _ => rfl
    refine ⟨_, by simp only [List.getElem?_toArray, List.getElem?_cons_succ, List.getElem?_cons_zero]; rfl, .inl ⟨(wanted_none rfl), ?_⟩⟩
    obtain ⟨ρ, hρ⟩ : ∃ ρ, b.eval = ρ := ⟨_, rfl⟩
    rw [hρ] at e0 ec ⊢
    unfold execOp; simp [go_sem, e0, ec, c0]
  · refine ⟨⟨129, rfl⟩, .inl rfl, fun b p s g hs hlow hS h => ?_⟩
    have e0 := (show b.eval (.tmp 128) = .slice ea en ec from h.rd 3 _ _ 128 (by kernel_rfl) rfl rfl)
    have hf := hS
    exact ⟨_, by simp only [List.getElem?_toArray, List.getElem?_cons_succ, List.getElem?_cons_zero]; rfl, .inl ⟨(wanted_none rfl), run_strO (src := 22) (dst := 9) Tryd.underlying22 Tryd.underlying5 Tryd.underlying9 (.tmp 128) rfl e0 (he.keep hf (by simp)) S hSS⟩⟩
  · refine ⟨⟨130, rfl⟩, .inl rfl, fun b p s g hs hlow hS h => ?_⟩
    have e0 := (show b.eval (.tmp 126) = .string S from h.rd 1 _ _ 126 (by kernel_rfl) rfl rfl)
    have e1 := (show b.eval (.tmp 129) = .string S from h.rd 4 _ _ 129 (by kernel_rfl) rfl rfl)
    have ec : ∀ v, b.eval (.const v) = v := fun _ => rfl
    refine ⟨_, by simp only [List.getElem?_toArray, List.getElem?_cons_succ, List.getElem?_cons_zero]; rfl, .inl ⟨(wanted_none rfl), ?_⟩⟩
    obtain ⟨ρ, hρ⟩ : ∃ ρ, b.eval = ρ := ⟨_, rfl⟩
    rw [hρ] at e0 e1 ec ⊢
    unfold execOp; simp [go_sem, e0, e1, ec]
  · refine ⟨⟨131, rfl⟩, .inl rfl, fun b p s g hs hlow hS h => ?_⟩
    have e0 := (show b.eval (.tmp 130) = .bool true from h.rd 5 _ _ 130 (by kernel_rfl) rfl rfl)
    have ec : ∀ v, b.eval (.const v) = v := fun _ => rfl
    refine ⟨_, by simp only [List.getElem?_toArray, List.getElem?_cons_succ, List.getElem?_cons_zero]; rfl, .inl ⟨(wanted_none rfl), ?_⟩⟩
    obtain ⟨ρ, hρ⟩ : ∃ ρ, b.eval = ρ := ⟨_, rfl⟩
    rw [hρ] at e0 ec ⊢
    unfold execOp; simp [go_sem, e0, ec]
  · refine ⟨⟨132, rfl⟩, .inl rfl, fun b p s g hs hlow hS h => ?_⟩
    have e0 := (show b.eval (.tmp 13) = .pointer (some ⟨fb, 0, none⟩) from (h.old 13 (by decide)).trans h13)
    have ec : ∀ v, b.eval (.const v) = v := fun _ => rfl
    refine ⟨_, by simp only [List.getElem?_toArray, List.getElem?_cons_succ, List.getElem?_cons_zero]; rfl, .inl ⟨(wanted_some 6 true 131 rfl (by simp only [List.getElem?_toArray, List.getElem?_cons_succ, List.getElem?_cons_zero]; rfl) (by rw [h.size, hsz]; decide) (h.rd 6 _ _ 131 (by kernel_rfl) rfl rfl)), ?_⟩⟩
    obtain ⟨ρ, hρ⟩ : ∃ ρ, b.eval = ρ := ⟨_, rfl⟩
    rw [hρ] at e0 ec ⊢
    unfold execOp; simp [go_sem, e0, ec]
  · refine ⟨⟨133, rfl⟩, .inl rfl, fun b p s g hs hlow hS h => ?_⟩
    have e0 := (show b.eval (.tmp 132) = .pointer (some ⟨fb, 2, none⟩) from h.rd 7 _ _ 132 (by kernel_rfl) rfl rfl)
    have hf := hS
    have c0 := (show p.cell? ⟨fb, 2, none⟩ = some (.slice ea en ec) from (cell_mono hf hc2))
    have ec : ∀ v, b.eval (.const v) = v := fun _ => rfl
    refine ⟨_, by simp only [List.getElem?_toArray, List.getElem?_cons_succ, List.getElem?_cons_zero]; rfl, .inl ⟨(wanted_some 6 true 131 rfl (by simp only [List.getElem?_toArray, List.getElem?_cons_succ, List.getElem?_cons_zero]; rfl) (by rw [h.size, hsz]; decide) (h.rd 6 _ _ 131 (by kernel_rfl) rfl rfl)), ?_⟩⟩
    obtain ⟨ρ, hρ⟩ : ∃ ρ, b.eval = ρ := ⟨_, rfl⟩
    rw [hρ] at e0 ec ⊢
    unfold execOp; simp [go_sem, e0, ec, c0]
  · refine ⟨rfl, .inl rfl, fun b p g hS h => ?_⟩
    have e0 := (show b.eval (.tmp 133) = .slice ea en ec from h.rd 8 _ _ 133 (by kernel_rfl) rfl rfl)
    have hf := hS
    refine opV_func _ (by simp only [List.getElem?_toArray, List.getElem?_cons_succ, List.getElem?_cons_zero]; rfl) (wanted_some 6 true 131 rfl (by simp only [List.getElem?_toArray, List.getElem?_cons_succ, List.getElem?_cons_zero]; rfl) (by rw [h.size, hsz]; decide) (h.rd 6 _ _ 131 (by kernel_rfl) rfl rfl)) 33 _ _ rfl #[.slice ea en ec] (by simp only [List.map_toArray, List.map_cons, List.map_nil, e0]) (by simp [go_sem]) ((hde p hf).mono ?_)
    rintro e p' ⟨rfl, hf'⟩
    exact ⟨_, rfl, hf.trans hf', .inr rfl⟩
  · refine ⟨⟨135, rfl⟩, .inl rfl, fun b p s g hs hlow hS h => ?_⟩
    have e0 := (show b.eval (.tmp 13) = .pointer (some ⟨fb, 0, none⟩) from (h.old 13 (by decide)).trans h13)
    have ec : ∀ v, b.eval (.const v) = v := fun _ => rfl
    refine ⟨_, by simp only [List.getElem?_toArray, List.getElem?_cons_succ, List.getElem?_cons_zero]; rfl, .inl ⟨(wanted_some 6 true 131 rfl (by simp only [List.getElem?_toArray, List.getElem?_cons_succ, List.getElem?_cons_zero]; rfl) (by rw [h.size, hsz]; decide) (h.rd 6 _ _ 131 (by kernel_rfl) rfl rfl)), ?_⟩⟩
    obtain ⟨ρ, hρ⟩ : ∃ ρ, b.eval = ρ := ⟨_, rfl⟩
    rw [hρ] at e0 ec ⊢
    unfold execOp; simp [go_sem, e0, ec]
  · refine ⟨⟨136, rfl⟩, .inl rfl, fun b p s g hs hlow hS h => ?_⟩
    have e0 := (show b.eval (.tmp 135) = .pointer (some ⟨fb, 1, none⟩) from h.rd 10 _ _ 135 (by kernel_rfl) rfl rfl)
    have hf := hS
    have c0 := (show p.cell? ⟨fb, 1, none⟩ = some (.slice ua un uc) from (cell_mono hf hc1))
    have ec : ∀ v, b.eval (.const v) = v := fun _ => rfl
    refine ⟨_, by simp only [List.getElem?_toArray, List.getElem?_cons_succ, List.getElem?_cons_zero]; rfl, .inl ⟨(wanted_some 6 true 131 rfl (by simp only [List.getElem?_toArray, List.getElem?_cons_succ, List.getElem?_cons_zero]; rfl) (by rw [h.size, hsz]; decide) (h.rd 6 _ _ 131 (by kernel_rfl) rfl rfl)), ?_⟩⟩
    obtain ⟨ρ, hρ⟩ : ∃ ρ, b.eval = ρ := ⟨_, rfl⟩
    rw [hρ] at e0 ec ⊢
    unfold execOp; simp [go_sem, e0, ec, c0]
  · refine ⟨rfl, .inr ⟨9, rfl, by kernel_rfl⟩, fun b p g hS h => ?_⟩
    have e0 := (show b.eval (.tmp 136) = .slice ua un uc from h.rd 11 _ _ 136 (by kernel_rfl) rfl rfl)
    have hf := hS
    refine opV_func _ (by simp only [List.getElem?_toArray, List.getElem?_cons_succ, List.getElem?_cons_zero]; rfl) (wanted_some 6 true 131 rfl (by simp only [List.getElem?_toArray, List.getElem?_cons_succ, List.getElem?_cons_zero]; rfl) (by rw [h.size, hsz]; decide) (h.rd 6 _ _ 131 (by kernel_rfl) rfl rfl)) 33 _ _ rfl #[.slice ua un uc] (by simp only [List.map_toArray, List.map_cons, List.map_nil, e0]) (by simp [go_sem]) ((hdl p hf).mono ?_)
    rintro e p' ⟨rfl, hf'⟩
    exact ⟨_, rfl, hf.trans hf', .inr rfl⟩
  · refine ⟨⟨138, rfl⟩, .inl rfl, fun b p s g hs hlow hS h => ?_⟩
    have e0 := (show b.eval (.tmp 134) = .int .i64 dE from h.st 9 _ 134 (by kernel_rfl) rfl rfl)
    have e1 := (show b.eval (.tmp 137) = .int .i64 dL from h.st 12 _ 137 (by kernel_rfl) rfl rfl)
    have ec : ∀ v, b.eval (.const v) = v := fun _ => rfl
    refine ⟨_, by simp only [List.getElem?_toArray, List.getElem?_cons_succ, List.getElem?_cons_zero]; rfl, .inl ⟨(wanted_some 6 true 131 rfl (by simp only [List.getElem?_toArray, List.getElem?_cons_succ, List.getElem?_cons_zero]; rfl) (by rw [h.size, hsz]; decide) (h.rd 6 _ _ 131 (by kernel_rfl) rfl rfl)), ?_⟩⟩
    obtain ⟨ρ, hρ⟩ : ∃ ρ, b.eval = ρ := ⟨_, rfl⟩
    rw [hρ] at e0 e1 ec ⊢
    unfold execOp; simp [go_sem, e0, e1, ec, hlt]
  · refine ⟨⟨139, rfl⟩, .inl rfl, fun b p s g hs hlow hS h => ?_⟩
    have e0 := (show b.eval (.tmp 131) = .bool true from h.rd 6 _ _ 131 (by kernel_rfl) rfl rfl)
    have e1 := (show b.eval (.tmp 138) = .bool true from h.rd 13 _ _ 138 (by kernel_rfl) rfl rfl)
    have ec : ∀ v, b.eval (.const v) = v := fun _ => rfl
    refine ⟨_, by simp only [List.getElem?_toArray, List.getElem?_cons_succ, List.getElem?_cons_zero]; rfl, .inl ⟨(wanted_none rfl), ?_⟩⟩
    obtain ⟨ρ, hρ⟩ : ∃ ρ, b.eval = ρ := ⟨_, rfl⟩
    rw [hρ] at e0 e1 ec ⊢
    unfold execOp; simp [go_sem, e0, e1, ec]
  · refine ⟨⟨140, rfl⟩, .inl rfl, fun b p s g hs hlow hS h => ?_⟩
    have e0 := (show b.eval (.tmp 139) = .bool true from h.rd 14 _ _ 139 (by kernel_rfl) rfl rfl)
    have ec : ∀ v, b.eval (.const v) = v := fun _ => rfl
    refine ⟨_, by simp only [List.getElem?_toArray, List.getElem?_cons_succ, List.getElem?_cons_zero]; rfl, .inl ⟨(wanted_none rfl), ?_⟩⟩
    obtain ⟨ρ, hρ⟩ : ∃ ρ, b.eval = ρ := ⟨_, rfl⟩
    rw [hρ] at e0 ec ⊢
    unfold execOp; simp [go_sem, e0, ec]
  · refine ⟨⟨141, rfl⟩, .inl rfl, fun b p s g hs hlow hS h => ?_⟩
    have e0 := (show b.eval (.tmp 13) = .pointer (some ⟨fb, 0, none⟩) from (h.old 13 (by decide)).trans h13)
    have ec : ∀ v, b.eval (.const v) = v := fun _ => rfl
    refine ⟨_, by simp only [List.getElem?_toArray, List.getElem?_cons_succ, List.getElem?_cons_zero]; rfl, .inl ⟨(wanted_some 15 true 140 rfl (by simp only [List.getElem?_toArray, List.getElem?_cons_succ, List.getElem?_cons_zero]; rfl) (by rw [h.size, hsz]; decide) (h.rd 15 _ _ 140 (by kernel_rfl) rfl rfl)), ?_⟩⟩
    obtain ⟨ρ, hρ⟩ : ∃ ρ, b.eval = ρ := ⟨_, rfl⟩
    rw [hρ] at e0 ec ⊢
    unfold execOp; simp [go_sem, e0, ec]
  · refine ⟨⟨142, rfl⟩, .inl rfl, fun b p s g hs hlow hS h => ?_⟩
    have e0 := (show b.eval (.tmp 141) = .pointer (some ⟨fb, 2, none⟩) from h.rd 16 _ _ 141 (by kernel_rfl) rfl rfl)
    have hf := hS
    have c0 := (show p.cell? ⟨fb, 2, none⟩ = some (.slice ea en ec) from (cell_mono hf hc2))
    have ec : ∀ v, b.eval (.const v) = v := fun _ => rfl
    refine ⟨_, by simp only [List.getElem?_toArray, List.getElem?_cons_succ, List.getElem?_cons_zero]; rfl, .inl ⟨(wanted_some 15 true 140 rfl (by simp only [List.getElem?_toArray, List.getElem?_cons_succ, List.getElem?_cons_zero]; rfl) (by rw [h.size, hsz]; decide) (h.rd 15 _ _ 140 (by kernel_rfl) rfl rfl)), ?_⟩⟩
    obtain ⟨ρ, hρ⟩ : ∃ ρ, b.eval = ρ := ⟨_, rfl⟩
    rw [hρ] at e0 ec ⊢
    unfold execOp; simp [go_sem, e0, ec, c0]
  · refine ⟨⟨143, rfl⟩, .inl rfl, fun b p s g hs hlow hS h => ?_⟩
    have e0 := (show b.eval (.tmp 142) = .slice ea en ec from h.rd 17 _ _ 142 (by kernel_rfl) rfl rfl)
    have ec : ∀ v, b.eval (.const v) = v := fun _ => rfl
    refine ⟨_, by simp only [List.getElem?_toArray, List.getElem?_cons_succ, List.getElem?_cons_zero]; rfl, .inl ⟨(wanted_some 15 true 140 rfl (by simp only [List.getElem?_toArray, List.getElem?_cons_succ, List.getElem?_cons_zero]; rfl) (by rw [h.size, hsz]; decide) (h.rd 15 _ _ 140 (by kernel_rfl) rfl rfl)), ?_⟩⟩
    obtain ⟨ρ, hρ⟩ : ∃ ρ, b.eval = ρ := ⟨_, rfl⟩
    rw [hρ] at e0 ec ⊢
    unfold execOp; simp [go_sem, e0, ec]
  · refine ⟨⟨144, rfl⟩, .inl rfl, fun b p s g hs hlow hS h => ?_⟩
    have e0 := (show b.eval (.tmp 143) = .int .i64 (en : Int) from h.rd 18 _ _ 143 (by kernel_rfl) rfl rfl)
    have ec : ∀ v, b.eval (.const v) = v := fun _ => rfl
    refine ⟨_, by simp only [List.getElem?_toArray, List.getElem?_cons_succ, List.getElem?_cons_zero]; rfl, .inl ⟨(wanted_some 15 true 140 rfl (by simp only [List.getElem?_toArray, List.getElem?_cons_succ, List.getElem?_cons_zero]; rfl) (by rw [h.size, hsz]; decide) (h.rd 15 _ _ 140 (by kernel_rfl) rfl rfl)), ?_⟩⟩
    obtain ⟨ρ, hρ⟩ : ∃ ρ, b.eval = ρ := ⟨_, rfl⟩
    rw [hρ] at e0 ec ⊢
    unfold execOp; simp [go_sem, e0, ec, show ¬ (en : Int) = 0 by omega, show ¬ en = 0 by omega]
  · refine ⟨⟨145, rfl⟩, .inl rfl, fun b p s g hs hlow hS h => ?_⟩
    have e0 := (show b.eval (.tmp 8) = .int .i64 (many : Int) from (h.old 8 (by decide)).trans h8)
    have ec : ∀ v, b.eval (.const v) = v := fun _ => rfl
    refine ⟨_, by simp only [List.getElem?_toArray, List.getElem?_cons_succ, List.getElem?_cons_zero]; rfl, .inl ⟨(wanted_some 15 true 140 rfl (by simp only [List.getElem?_toArray, List.getElem?_cons_succ, List.getElem?_cons_zero]; rfl) (by rw [h.size, hsz]; decide) (h.rd 15 _ _ 140 (by kernel_rfl) rfl rfl)), ?_⟩⟩
    obtain ⟨ρ, hρ⟩ : ∃ ρ, b.eval = ρ := ⟨_, rfl⟩
    rw [hρ] at e0 ec ⊢
    unfold execOp; simp [go_sem, e0, ec]
  · refine ⟨⟨146, rfl⟩, .inl rfl, fun b p s g hs hlow hS h => ?_⟩
    have e0 := (show b.eval (.tmp 145) = .int .i64 (many : Int) from h.rd 20 _ _ 145 (by kernel_rfl) rfl rfl)
    have ec : ∀ v, b.eval (.const v) = v := fun _ => rfl
    refine ⟨_, by simp only [List.getElem?_toArray, List.getElem?_cons_succ, List.getElem?_cons_zero]; rfl, .inl ⟨(wanted_some 15 true 140 rfl (by simp only [List.getElem?_toArray, List.getElem?_cons_succ, List.getElem?_cons_zero]; rfl) (by rw [h.size, hsz]; decide) (h.rd 15 _ _ 140 (by kernel_rfl) rfl rfl)), ?_⟩⟩
    obtain ⟨ρ, hρ⟩ : ∃ ρ, b.eval = ρ := ⟨_, rfl⟩
    rw [hρ] at e0 ec ⊢
    unfold execOp; simp [go_sem, e0, ec, show ¬ (many : Int) = 0 by omega, show ¬ many = 0 by omega]
  · refine ⟨⟨147, rfl⟩, .inl rfl, fun b p s g hs hlow hS h => ?_⟩
    have e0 := (show b.eval (.tmp 144) = .bool false from h.rd 19 _ _ 144 (by kernel_rfl) rfl rfl)
    have e1 := (show b.eval (.tmp 146) = .bool false from h.rd 21 _ _ 146 (by kernel_rfl) rfl rfl)
    have ec : ∀ v, b.eval (.const v) = v := fun _ => rfl
    refine ⟨_, by simp only [List.getElem?_toArray, List.getElem?_cons_succ, List.getElem?_cons_zero]; rfl, .inl ⟨(wanted_some 15 true 140 rfl (by simp only [List.getElem?_toArray, List.getElem?_cons_succ, List.getElem?_cons_zero]; rfl) (by rw [h.size, hsz]; decide) (h.rd 15 _ _ 140 (by kernel_rfl) rfl rfl)), ?_⟩⟩
    obtain ⟨ρ, hρ⟩ : ∃ ρ, b.eval = ρ := ⟨_, rfl⟩
    rw [hρ] at e0 e1 ec ⊢
    unfold execOp; simp [go_sem, e0, e1, ec]
  · refine ⟨⟨148, rfl⟩, .inl rfl, fun b p s g hs hlow hS h => ?_⟩
    have e0 := (show b.eval (.tmp 140) = .bool true from h.rd 15 _ _ 140 (by kernel_rfl) rfl rfl)
    have e1 := (show b.eval (.tmp 147) = .bool true from h.rd 22 _ _ 147 (by kernel_rfl) rfl rfl)
    have ec : ∀ v, b.eval (.const v) = v := fun _ => rfl
    refine ⟨_, by simp only [List.getElem?_toArray, List.getElem?_cons_succ, List.getElem?_cons_zero]; rfl, .inl ⟨(wanted_none rfl), ?_⟩⟩
    obtain ⟨ρ, hρ⟩ : ∃ ρ, b.eval = ρ := ⟨_, rfl⟩
    rw [hρ] at e0 e1 ec ⊢
    unfold execOp; simp [go_sem, e0, e1, ec]
  · refine ⟨⟨4, rfl⟩, .inl rfl, fun b p s g hs hlow hS h => ?_⟩
    have e0 := (show b.eval (.tmp 148) = .bool true from h.rd 23 _ _ 148 (by kernel_rfl) rfl rfl)
    have ec : ∀ v, b.eval (.const v) = v := fun _ => rfl
    refine ⟨_, by simp only [List.getElem?_toArray, List.getElem?_cons_succ, List.getElem?_cons_zero]; rfl, .inl ⟨(wanted_none rfl), ?_⟩⟩
    obtain ⟨ρ, hρ⟩ : ∃ ρ, b.eval = ρ := ⟨_, rfl⟩
    rw [hρ] at e0 ec ⊢
    unfold execOp; simp [go_sem, e0, ec]
  · intro b p h1 h2 h3 h4 h5
    obtain ⟨g, h4, h6⟩ := h4
    have r4 : slot b 4 = .bool true := h5 24 (.bool true) _ 4 rfl rfl
    exact hQ b p h1 (h2.trans hsz) (fun s hs => h3 s (fun hm => hs (by simpa using hm))) r4 h4
end Go.Proofs.YtfblhdomjnffcaaDoor
