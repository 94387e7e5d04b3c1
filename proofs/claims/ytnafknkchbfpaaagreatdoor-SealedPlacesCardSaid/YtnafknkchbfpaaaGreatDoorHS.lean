import Derived.Test.YtnafknkchbfpaaaGreatDoorGB
import Derived.Test.YtnafknkchbfpaaaGreatDoorStr
import Derived.Test.YtnafknkchbfpaaaGreatDoorGD
import Derived.Test.YtnafknkchbfpaaaGreatDoorGI
import Derived.Test.YtnafknkchbfpaaaGreatDoorGG
import Derived.Deep.MidRow
import Derived.Test.YtnafknkchbfpaaaGreatDoorHR
import Derived.Test.YtnafknkchbfpaaaGreatDoorHT
import Derived.Test.YtnafknkchbfpaaaGreatDoorHJ
import Derived.Outline
import Derived.Maps.RangeWalk
set_option maxRecDepth 1000000
set_option maxHeartbeats 8000000
namespace Go.Proofs.YtnafknkchbfpaaaGreatDoor
open Go.RowKit Go.Bl
set_option linter.unusedVariables false
theorem frame13 (a : Go.Act) (hs : a.tmps.size = 13) (hd : a.defers = []) : a = ⟨(slot a 0 :: slot a 1 :: slot a 2 :: slot a 3 :: slot a 4 :: slot a 5 :: slot a 6 :: slot a 7 :: slot a 8 :: slot a 9 :: slot a 10 :: slot a 11 :: slot a 12 :: []).toArray, []⟩ := frameX a 13 hs hd
theorem frame34 (a : Go.Act) (hs : a.tmps.size = 34) (hd : a.defers = []) : a = ⟨(slot a 0 :: slot a 1 :: slot a 2 :: slot a 3 :: slot a 4 :: slot a 5 :: slot a 6 :: slot a 7 :: slot a 8 :: slot a 9 :: slot a 10 :: slot a 11 :: slot a 12 :: slot a 13 :: slot a 14 :: slot a 15 :: slot a 16 :: slot a 17 :: slot a 18 :: slot a 19 :: slot a 20 :: slot a 21 :: slot a 22 :: slot a 23 :: slot a 24 :: slot a 25 :: slot a 26 :: slot a 27 :: slot a 28 :: slot a 29 :: slot a 30 :: slot a 31 :: slot a 32 :: slot a 33 :: []).toArray, []⟩ := frameX a 34 hs hd
noncomputable def rp1R : Code := ((Tryz.f23.body.bind (findRegionC 1)).getD .skip)
theorem rp1 (w : World) (a : Go.Act) (hsz : a.tmps.size = 13) (i N R : Int) (kb pb : Nat) (x1 : Option Addr) (n1 y1 : Nat) (q : Par) (hk1 : w.cell? ⟨kb, 1, none⟩ = some (.slice x1 n1 y1)) (hpr : w.rangeAt pb 0 [.int .i64 q.size, .int .i64 q.sent, .int .i64 q.spots, .int .i64 q.per, .int .i64 q.pat, .int .i64 q.ret]) (hst : ∀ p, Fr [] w p -> Calls Tryz.prog 22 #[.agg #[.int .i64 q.size, .int .i64 q.sent, .int .i64 q.spots, .int .i64 q.per, .int .i64 q.pat, .int .i64 q.ret]] p fun e w' => e = .returned (.int .i64 N) /\ Fr [] p w') (hto : ∀ p, Fr [] w p -> Calls Tryz.prog 70 #[.slice x1 n1 y1, .int .i64 N, .int .i64 i] p fun e w' => e = .returned (.int .i64 R) /\ Fr [] p w') (h2 : slot a 2 = .int .i64 i) (h3 : slot a 3 = .pointer (some ⟨kb, 0, none⟩)) (h4 : slot a 4 = .pointer (some ⟨pb, 0, none⟩)) (Q : Exit -> Go.Act -> World -> Prop)
  (hQ : ∀ (b : Go.Act) (p : World), b.defers = a.defers -> b.tmps.size = 13 -> (∀ s, s ∉ ([7, 8, 9, 10, 11, 12, 6] : List Nat) -> slot b s = slot a s) -> slot b 6 = .int .i64 R -> Fr [] w p -> Q .normal b p) : Code.wp Tryz.prog rp1R Q a w := by
 conv => arg 2; whnf
 refine wp_region_ghost (by kernel_rfl) (by kernel_rfl) [some 7, some 8, some 9, some 10, some 11, some 12, some 6] [3, 5] [.rd (.pointer (some ⟨kb, 1, none⟩)) 2, .rd (.slice x1 n1 y1) 2, .rd (.agg #[.int .i64 q.size, .int .i64 q.sent, .int .i64 q.spots, .int .i64 q.per, .int .i64 q.pat, .int .i64 q.ret]) 2, .st 0, .rd (.int .i64 i) 2, .st 1, .rd (.int .i64 R) 2] (fun cj => if cj = 0 then (.int .i64 N) else if cj = 1 then (.int .i64 R) else undef) (fun s g p => Fr [] w p) (by kernel_rfl) (by rfl) (by rw [hsz]; rfl) (by kernel_rfl) (by kernel_rfl) (by decide) ?_ ⟨?_, ?_, ?_, ?_, ?_, ?_, ?_, trivial⟩ ?_
 ·intro w1 hw1
  exact ⟨fun _ => undef, hw1⟩
 ·refine ⟨⟨7, rfl⟩, .inl rfl, fun b p s g hs hlow hS h => ?_⟩
  have e0 := h.eo (by decide) h3
  refine gw0 rfl rfl ?_
  obtain ⟨ρ, hρ, ec⟩ := evx b
  rw [hρ] at e0 ⊢
  unfold execOp; simp [go_sem, e0, ec, Tryz.underlying29]
 ·refine ⟨⟨8, rfl⟩, .inl rfl, fun b p s g hs hlow hS h => ?_⟩
  have e0 := h.er 0 7 (by kernel_rfl) rfl rfl
  have hf := hS
  have c0 := (show p.cell? ⟨kb, 1, none⟩ = some (.slice x1 n1 y1) from cell_keep hf (by simp) hk1)
  refine gw0 rfl rfl ?_
  obtain ⟨ρ, hρ, ec⟩ := evx b
  rw [hρ] at e0 ⊢
  unfold execOp; simp [go_sem, e0, ec, c0]
 ·refine ⟨⟨9, rfl⟩, .inl rfl, fun b p s g hs hlow hS h => ?_⟩
  have e0 := h.eo (by decide) h4
  have hf := hS
  refine ⟨_, by rfl, .inl ⟨(wanted_none rfl), run_ldk rfl e0 (range_keep hpr hf) Tryz.underlying44 rfl (by kernel_rfl)⟩⟩
 ·refine ⟨rfl, .inl rfl, fun b p g hS h => ?_⟩
  have e0 := h.er 2 9 (by kernel_rfl) rfl rfl
  have hf := hS
  refine opV_func _ (by rfl) (wanted_none rfl) 22 _ _ rfl #[.agg #[.int .i64 q.size, .int .i64 q.sent, .int .i64 q.spots, .int .i64 q.per, .int .i64 q.pat, .int .i64 q.ret]] (by simp only [List.map_toArray, List.map_cons, List.map_nil, e0]) (by simp [go_sem]) ((hst p hf).mono ?_)
  rintro e p' ⟨rfl, hf'⟩
  exact ⟨_, rfl, hf.trans hf', .inr rfl⟩
 ·refine ⟨⟨11, rfl⟩, .inl rfl, fun b p s g hs hlow hS h => ?_⟩
  have e0 := h.eo (by decide) h2
  refine gw0 rfl rfl ?_
  obtain ⟨ρ, hρ, ec⟩ := evx b
  rw [hρ] at e0 ⊢
  unfold execOp; simp [go_sem, e0, ec]
 ·refine ⟨rfl, .inr ⟨3, rfl, by kernel_rfl⟩, fun b p g hS h => ?_⟩
  have e0 := h.er 1 8 (by kernel_rfl) rfl rfl
  have e1 := (show b.eval (.tmp 10) = .int .i64 N from h.st 3 _ 10 (by kernel_rfl) rfl rfl)
  have e2 := h.er 4 11 (by kernel_rfl) rfl rfl
  have hf := hS
  refine opV_func _ (by rfl) (wanted_none rfl) 70 _ _ rfl #[.slice x1 n1 y1, .int .i64 N, .int .i64 i] (by simp only [List.map_toArray, List.map_cons, List.map_nil, e0, e1, e2]) (by simp [go_sem]) ((hto p hf).mono ?_)
  rintro e p' ⟨rfl, hf'⟩
  exact ⟨_, rfl, hf.trans hf', .inr rfl⟩
 ·refine ⟨⟨6, rfl⟩, .inl rfl, fun b p s g hs hlow hS h => ?_⟩
  have e0 := (show b.eval (.tmp 12) = .int .i64 R from h.st 5 _ 12 (by kernel_rfl) rfl rfl)
  refine gw0 rfl rfl ?_
  obtain ⟨ρ, hρ, ec⟩ := evx b
  rw [hρ] at e0 ⊢
  unfold execOp; simp [go_sem, e0, ec]
 ·intro b p h1 h2 h3 h4 h5
  obtain ⟨g, h4, h6⟩ := h4
  have r6 : slot b 6 = .int .i64 R := h5 6 (.int .i64 R) _ 6 rfl rfl
  exact hQ b p h1 (h2.trans hsz) (fun s hs => h3 s (fun hm => hs (by simpa using hm))) r6 h4
noncomputable def rs2R : Code := ((Tryz.f24.body.bind (findRegionC 2)).getD .skip)
theorem rs2 (w : World) (a : Go.Act) (hsz : a.tmps.size = 34) (j N R D I : Int) (kb pb : Nat) (x0 x1 x2 x3 x4 : Option Addr) (n0 n1 n2 n3 n4 y0 y1 y2 y3 y4 : Nat) (q : Par) (hkr : w.rangeAt kb 0 [.slice x0 n0 y0, .slice x1 n1 y1, .slice x2 n2 y2, .slice x3 n3 y3, .slice x4 n4 y4]) (hpr : w.rangeAt pb 0 [.int .i64 q.size, .int .i64 q.sent, .int .i64 q.spots, .int .i64 q.per, .int .i64 q.pat, .int .i64 q.ret]) (hs1 : w.cell? ⟨pb, 1, none⟩ = some (.int .i64 q.sent)) (hD : IntKind.i64.wrap (N - q.sent) = D) (hD2 : N - q.sent = D) (hI : IntKind.i64.wrap (D + j) = I) (hI2 : D + j = I) (hst : ∀ p, Fr [] w p -> Calls Tryz.prog 22 #[.agg #[.int .i64 q.size, .int .i64 q.sent, .int .i64 q.spots, .int .i64 q.per, .int .i64 q.pat, .int .i64 q.ret]] p fun e w' => e = .returned (.int .i64 N) /\ Fr [] p w') (hpl : ∀ p, Fr [] w p -> Calls Tryz.prog 23 #[.agg #[.slice x0 n0 y0, .slice x1 n1 y1, .slice x2 n2 y2, .slice x3 n3 y3, .slice x4 n4 y4], .agg #[.int .i64 q.size, .int .i64 q.sent, .int .i64 q.spots, .int .i64 q.per, .int .i64 q.pat, .int .i64 q.ret], .int .i64 I] p fun e w' => e = .returned (.int .i64 R) /\ Fr [] p w') (h2 : slot a 2 = .int .i64 j) (h3 : slot a 3 = .pointer (some ⟨kb, 0, none⟩)) (h4 : slot a 4 = .pointer (some ⟨pb, 0, none⟩)) (Q : Exit -> Go.Act -> World -> Prop)
  (hQ : ∀ (b : Go.Act) (p : World), b.defers = a.defers -> b.tmps.size = 34 -> (∀ s, s ∉ ([18, 19, 20, 21, 22, 23, 24, 25, 26, 27, 10] : List Nat) -> slot b s = slot a s) -> slot b 10 = .int .i64 R -> Fr [] w p -> Q .normal b p) : Code.wp Tryz.prog rs2R Q a w := by
 conv => arg 2; whnf
 refine wp_region_ghost (by kernel_rfl) (by kernel_rfl) [some 18, some 19, some 20, some 21, some 22, some 23, some 24, some 25, some 26, some 27, some 10] [3, 9] [.rd (.agg #[.slice x0 n0 y0, .slice x1 n1 y1, .slice x2 n2 y2, .slice x3 n3 y3, .slice x4 n4 y4]) 2, .rd (.agg #[.int .i64 q.size, .int .i64 q.sent, .int .i64 q.spots, .int .i64 q.per, .int .i64 q.pat, .int .i64 q.ret]) 2, .rd (.agg #[.int .i64 q.size, .int .i64 q.sent, .int .i64 q.spots, .int .i64 q.per, .int .i64 q.pat, .int .i64 q.ret]) 2, .st 0, .rd (.pointer (some ⟨pb, 1, none⟩)) 2, .rd (.int .i64 q.sent) 2, .rd (.int .i64 D) 2, .rd (.int .i64 j) 2, .rd (.int .i64 I) 2, .st 1, .rd (.int .i64 R) 2] (fun cj => if cj = 0 then (.int .i64 N) else if cj = 1 then (.int .i64 R) else undef) (fun s g p => Fr [] w p) (by kernel_rfl) (by rfl) (by rw [hsz]; rfl) (by kernel_rfl) (by kernel_rfl) (by decide) ?_ ⟨?_, ?_, ?_, ?_, ?_, ?_, ?_, ?_, ?_, ?_, ?_, trivial⟩ ?_
 ·intro w1 hw1
  exact ⟨fun _ => undef, hw1⟩
 ·refine ⟨⟨18, rfl⟩, .inl rfl, fun b p s g hs hlow hS h => ?_⟩
  have e0 := h.eo (by decide) h3
  have hf := hS
  refine ⟨_, by rfl, .inl ⟨(wanted_none rfl), run_ldk rfl e0 (range_keep hkr hf) Tryz.underlying29 rfl (by kernel_rfl)⟩⟩
 ·refine ⟨⟨19, rfl⟩, .inl rfl, fun b p s g hs hlow hS h => ?_⟩
  have e0 := h.eo (by decide) h4
  have hf := hS
  refine ⟨_, by rfl, .inl ⟨(wanted_none rfl), run_ldk rfl e0 (range_keep hpr hf) Tryz.underlying44 rfl (by kernel_rfl)⟩⟩
 ·refine ⟨⟨20, rfl⟩, .inl rfl, fun b p s g hs hlow hS h => ?_⟩
  have e0 := h.eo (by decide) h4
  have hf := hS
  refine ⟨_, by rfl, .inl ⟨(wanted_none rfl), run_ldk rfl e0 (range_keep hpr hf) Tryz.underlying44 rfl (by kernel_rfl)⟩⟩
 ·refine ⟨rfl, .inl rfl, fun b p g hS h => ?_⟩
  have e0 := h.er 2 20 (by kernel_rfl) rfl rfl
  have hf := hS
  refine opV_func _ (by rfl) (wanted_none rfl) 22 _ _ rfl #[.agg #[.int .i64 q.size, .int .i64 q.sent, .int .i64 q.spots, .int .i64 q.per, .int .i64 q.pat, .int .i64 q.ret]] (by simp only [List.map_toArray, List.map_cons, List.map_nil, e0]) (by simp [go_sem]) ((hst p hf).mono ?_)
  rintro e p' ⟨rfl, hf'⟩
  exact ⟨_, rfl, hf.trans hf', .inr rfl⟩
 ·refine ⟨⟨22, rfl⟩, .inl rfl, fun b p s g hs hlow hS h => ?_⟩
  have e0 := h.eo (by decide) h4
  refine gw0 rfl rfl ?_
  obtain ⟨ρ, hρ, ec⟩ := evx b
  rw [hρ] at e0 ⊢
  unfold execOp; simp [go_sem, e0, ec]
 ·refine ⟨⟨23, rfl⟩, .inl rfl, fun b p s g hs hlow hS h => ?_⟩
  have e0 := h.er 4 22 (by kernel_rfl) rfl rfl
  have hf := hS
  have c0 := (show p.cell? ⟨pb, 1, none⟩ = some (.int .i64 q.sent) from cell_keep hf (by simp) hs1)
  refine gw0 rfl rfl ?_
  obtain ⟨ρ, hρ, ec⟩ := evx b
  rw [hρ] at e0 ⊢
  unfold execOp; simp [go_sem, e0, ec, c0]
 ·refine ⟨⟨24, rfl⟩, .inl rfl, fun b p s g hs hlow hS h => ?_⟩
  have e0 := (show b.eval (.tmp 21) = .int .i64 N from h.st 3 _ 21 (by kernel_rfl) rfl rfl)
  have e1 := h.er 5 23 (by kernel_rfl) rfl rfl
  refine gw0 rfl rfl ?_
  obtain ⟨ρ, hρ, ec⟩ := evx b
  rw [hρ] at e0 e1 ⊢
  unfold execOp; simp [go_sem, e0, e1, ec, hD]
 ·refine ⟨⟨25, rfl⟩, .inl rfl, fun b p s g hs hlow hS h => ?_⟩
  have e0 := h.eo (by decide) h2
  refine gw0 rfl rfl ?_
  obtain ⟨ρ, hρ, ec⟩ := evx b
  rw [hρ] at e0 ⊢
  unfold execOp; simp [go_sem, e0, ec]
 ·refine ⟨⟨26, rfl⟩, .inl rfl, fun b p s g hs hlow hS h => ?_⟩
  have e0 := h.er 6 24 (by kernel_rfl) rfl rfl
  have e1 := h.er 7 25 (by kernel_rfl) rfl rfl
  refine gw0 rfl rfl ?_
  obtain ⟨ρ, hρ, ec⟩ := evx b
  rw [hρ] at e0 e1 ⊢
  unfold execOp; simp [go_sem, e0, e1, ec, hI]
 ·refine ⟨rfl, .inr ⟨3, rfl, by kernel_rfl⟩, fun b p g hS h => ?_⟩
  have e0 := h.er 0 18 (by kernel_rfl) rfl rfl
  have e1 := h.er 1 19 (by kernel_rfl) rfl rfl
  have e2 := h.er 8 26 (by kernel_rfl) rfl rfl
  have hf := hS
  refine opV_func _ (by rfl) (wanted_none rfl) 23 _ _ rfl #[.agg #[.slice x0 n0 y0, .slice x1 n1 y1, .slice x2 n2 y2, .slice x3 n3 y3, .slice x4 n4 y4], .agg #[.int .i64 q.size, .int .i64 q.sent, .int .i64 q.spots, .int .i64 q.per, .int .i64 q.pat, .int .i64 q.ret], .int .i64 I] (by simp only [List.map_toArray, List.map_cons, List.map_nil, e0, e1, e2]) (by simp [go_sem]) ((hpl p hf).mono ?_)
  rintro e p' ⟨rfl, hf'⟩
  exact ⟨_, rfl, hf.trans hf', .inr rfl⟩
 ·refine ⟨⟨10, rfl⟩, .inl rfl, fun b p s g hs hlow hS h => ?_⟩
  have e0 := (show b.eval (.tmp 27) = .int .i64 R from h.st 9 _ 27 (by kernel_rfl) rfl rfl)
  refine gw0 rfl rfl ?_
  obtain ⟨ρ, hρ, ec⟩ := evx b
  rw [hρ] at e0 ⊢
  unfold execOp; simp [go_sem, e0, ec]
 ·intro b p h1 h2 h3 h4 h5
  obtain ⟨g, h4, h6⟩ := h4
  have r10 : slot b 10 = .int .i64 R := h5 10 (.int .i64 R) _ 10 rfl rfl
  exact hQ b p h1 (h2.trans hsz) (fun s hs => h3 s (fun hm => hs (by simpa using hm))) r10 h4
theorem rplace_any (w0 : World) (x0 x1 x2 x3 x4 : Option Addr) (n0 n1 n2 n3 n4 y0 y1 y2 y3 y4 : Nat) (kP : List UInt8) (p : Par) (i : Nat) (hK1 : Bs (fun b => w0.heap.size <= b) w0 (.slice x1 n1 y1) kP) (hl : kP.length <= 90000000) (hR : RG w0) (h0 : 0 <= p.size /\ p.size <= 2000) (h1 : 0 <= p.sent /\ p.sent <= 8) (hi : i < (blk p.size + p.sent).toNat) :
  Calls Tryz.prog 23 #[.agg #[.slice x0 n0 y0, .slice x1 n1 y1, .slice x2 n2 y2, .slice x3 n3 y3, .slice x4 n4 y4], .agg #[.int .i64 p.size, .int .i64 p.sent, .int .i64 p.spots, .int .i64 p.per, .int .i64 p.pat, .int .i64 p.ret], .int .i64 (i : Int)] w0 fun e w' => e = .returned (.int .i64 ((placeN kP (blk p.size + p.sent).toNat i : Nat) : Int)) /\ Fr [] w0 w' := by
 obtain ⟨Z, hZ⟩ := exq (w0.heap.size)
 have F0 : Fr [] w0 ((w0.alloc (.cells #[.slice x0 n0 y0, .slice x1 n1 y1, .slice x2 n2 y2, .slice x3 n3 y3, .slice x4 n4 y4] 29)).alloc (.cells #[.int .i64 p.size, .int .i64 p.sent, .int .i64 p.spots, .int .i64 p.per, .int .i64 p.pat, .int .i64 p.ret] 44)) := (Fr.alloc _ _).al
 have HK := Hdq (show At ((w0.alloc (.cells #[.slice x0 n0 y0, .slice x1 n1 y1, .slice x2 n2 y2, .slice x3 n3 y3, .slice x4 n4 y4] 29)).alloc (.cells #[.int .i64 p.size, .int .i64 p.sent, .int .i64 p.spots, .int .i64 p.per, .int .i64 p.pat, .int .i64 p.ret] 44)) Z (.cells #[.slice x0 n0 y0, .slice x1 n1 y1, .slice x2 n2 y2, .slice x3 n3 y3, .slice x4 n4 y4] 29) from (At.new hZ.symm).al)
 have HP := Hdq (show At ((w0.alloc (.cells #[.slice x0 n0 y0, .slice x1 n1 y1, .slice x2 n2 y2, .slice x3 n3 y3, .slice x4 n4 y4] 29)).alloc (.cells #[.int .i64 p.size, .int .i64 p.sent, .int .i64 p.spots, .int .i64 p.per, .int .i64 p.pat, .int .i64 p.ret] 44)) (Z + 1) (.cells #[.int .i64 p.size, .int .i64 p.sent, .int .i64 p.spots, .int .i64 p.per, .int .i64 p.pat, .int .i64 p.ret] 44) from At.new (by simp [hZ]))
 obtain ⟨w1, hw1⟩ := exq (((w0.alloc (.cells #[.slice x0 n0 y0, .slice x1 n1 y1, .slice x2 n2 y2, .slice x3 n3 y3, .slice x4 n4 y4] 29)).alloc (.cells #[.int .i64 p.size, .int .i64 p.sent, .int .i64 p.spots, .int .i64 p.per, .int .i64 p.pat, .int .i64 p.ret] 44)))
 rw [hw1] at F0 HK HP
 have HF := Hdq F0
 have hb := blk_le (p := p) h0
 have HQ := Hdq (fun wi (h : Fr [] w0 wi) => rto_any wi (.slice x1 n1 y1) kP (blk p.size + p.sent).toNat i (hK1.mono (A' := fun b => wi.heap.size <= b) h (by simp) (fun b hb => .inl (Nat.le_trans h.size hb))) hl (hR.keep h) (by omega) hi)
 have HS := Hdq (fun wi => rstored_ok wi p h0 h1)
 have hN : (((blk p.size + p.sent).toNat : Nat) : Int) = blk p.size + p.sent := by omega
 rw [hN] at HQ
 clear hK1 hl hR h0 h1 hi hb hN F0
 go_enter Tryz.func23, Tryz.ntmps23
 go_wp2
 clear hw1 hZ
 refine rp1 w1 _ rfl (i : Int) (blk p.size + p.sent) ((placeN kP (blk p.size + p.sent).toNat i : Nat) : Int) Z (Z + 1) x1 n1 y1 p (HK.out.cell 1) (range_of HP.out) (fun v _ => HS.out v) (fun v hv => HQ.out v (HF.out.trans hv)) rfl rfl rfl _ ?_
 intro b v hd hs ho r6 hf
 rw [frame13 b hs hd, r6]
 have HF2 := Hdq (HF.out.trans hf)
 clear hf ho hs hd r6
 go_wp2
 go_ret
 exact ⟨rfl, HF2.out⟩
theorem rsent_any (w0 : World) (x0 x1 x2 x3 x4 : Option Addr) (n0 n1 n2 n3 n4 y0 y1 y2 y3 y4 : Nat) (kP kS kT : List UInt8) (p : Par) (j : Nat) (hK1 : Bs (fun b => w0.heap.size <= b) w0 (.slice x1 n1 y1) kP) (hK2 : Bs (fun b => w0.heap.size <= b) w0 (.slice x2 n2 y2) kS) (hK3 : Bs (fun b => w0.heap.size <= b) w0 (.slice x3 n3 y3) kT) (hl1 : kP.length <= 1000000) (hl2 : kS.length <= 1000000) (hl3 : kT.length <= 1000000) (hR : RG w0) (h0 : 0 <= p.size /\ p.size <= 2000) (h1 : 0 <= p.sent /\ p.sent <= 8) (hj : (j : Int) < p.sent) :
  Calls Tryz.prog 24 #[.agg #[.slice x0 n0 y0, .slice x1 n1 y1, .slice x2 n2 y2, .slice x3 n3 y3, .slice x4 n4 y4], .agg #[.int .i64 p.size, .int .i64 p.sent, .int .i64 p.spots, .int .i64 p.per, .int .i64 p.pat, .int .i64 p.ret], .int .i64 (j : Int)] w0 fun e w' => ∃ u, e = .returned (.tuple #[.int .i64 ((placeN kP (blk p.size + p.sent).toNat ((blk p.size).toNat + j) : Nat) : Int), u]) /\ OwnB 5 w0.heap.size w' u (tgdL kT ((placeN kP (blk p.size + p.sent).toNat ((blk p.size).toNat + j) : Nat) : Int) (strL kS (j : Int))) /\ Fr [] w0 w' := by
 obtain ⟨Z, hZ⟩ := exq (w0.heap.size)
 have F0 : Fr [] w0 ((w0.alloc (.cells #[.slice x0 n0 y0, .slice x1 n1 y1, .slice x2 n2 y2, .slice x3 n3 y3, .slice x4 n4 y4] 29)).alloc (.cells #[.int .i64 p.size, .int .i64 p.sent, .int .i64 p.spots, .int .i64 p.per, .int .i64 p.pat, .int .i64 p.ret] 44)) := (Fr.alloc _ _).al
 have HK := Hdq (show At ((w0.alloc (.cells #[.slice x0 n0 y0, .slice x1 n1 y1, .slice x2 n2 y2, .slice x3 n3 y3, .slice x4 n4 y4] 29)).alloc (.cells #[.int .i64 p.size, .int .i64 p.sent, .int .i64 p.spots, .int .i64 p.per, .int .i64 p.pat, .int .i64 p.ret] 44)) Z (.cells #[.slice x0 n0 y0, .slice x1 n1 y1, .slice x2 n2 y2, .slice x3 n3 y3, .slice x4 n4 y4] 29) from (At.new hZ.symm).al)
 have HP := Hdq (show At ((w0.alloc (.cells #[.slice x0 n0 y0, .slice x1 n1 y1, .slice x2 n2 y2, .slice x3 n3 y3, .slice x4 n4 y4] 29)).alloc (.cells #[.int .i64 p.size, .int .i64 p.sent, .int .i64 p.spots, .int .i64 p.per, .int .i64 p.pat, .int .i64 p.ret] 44)) (Z + 1) (.cells #[.int .i64 p.size, .int .i64 p.sent, .int .i64 p.spots, .int .i64 p.per, .int .i64 p.pat, .int .i64 p.ret] 44) from At.new (by simp [hZ]))
 obtain ⟨w1, hw1⟩ := exq (((w0.alloc (.cells #[.slice x0 n0 y0, .slice x1 n1 y1, .slice x2 n2 y2, .slice x3 n3 y3, .slice x4 n4 y4] 29)).alloc (.cells #[.int .i64 p.size, .int .i64 p.sent, .int .i64 p.spots, .int .i64 p.per, .int .i64 p.pat, .int .i64 p.ret] 44)))
 rw [hw1] at F0 HK HP
 have HF := Hdq F0
 have hb := blk_le (p := p) h0
 have LOW : ∀ {v : Value} {k : List UInt8}, Bs (fun b => w0.heap.size <= b) w0 v k -> ∀ wi, Fr [] w0 wi -> Bs (fun b => wi.heap.size <= b) wi v k := fun hB wi h => hB.mono (A' := fun b => wi.heap.size <= b) h (by simp) (fun b hb => .inl (Nat.le_trans h.size hb))
 have HQ := Hdq (fun wi (h : Fr [] w0 wi) => rplace_any wi x0 x1 x2 x3 x4 n0 n1 n2 n3 n4 y0 y1 y2 y3 y4 kP p ((blk p.size).toNat + j) (LOW hK1 wi h) (by omega) (hR.keep h) h0 h1 (by omega))
 have HBL := Hdq (fun wi (h : Fr [] w0 wi) => rblock_any wi (.slice x2 n2 y2) kS (j : Int) (LOW hK2 wi h) (by omega) (hR.keep h) (by omega) (by omega))
 have HK3 := Hdq (fun wi (h : Fr [] w0 wi) => LOW hK3 wi h)
 have HR := Hdq (fun wi (h : Fr [] w0 wi) => hR.keep h)
 have HL3 := Hdq hl3
 have HS := Hdq (fun wi => rstored_ok wi p h0 h1)
 have hI : ((((blk p.size).toNat + j : Nat)) : Int) = blk p.size + (j : Int) := by omega
 rw [hI] at HQ
 have HD := Hdq (show IntKind.i64.wrap (blk p.size + p.sent - p.sent) = blk p.size /\ blk p.size + p.sent - p.sent = blk p.size /\ IntKind.i64.wrap (blk p.size + (j : Int)) = blk p.size + (j : Int) from ⟨by rw [IntKind.wrap_i64]; omega, by omega, by rw [IntKind.wrap_i64]; omega⟩)
 obtain ⟨R, hRR⟩ := exq (placeN kP (blk p.size + p.sent).toNat ((blk p.size).toNat + j))
 rw [hRR] at HQ ⊢
 have c2 : w1.cell? ⟨Z, 2, none⟩ = some (.slice x2 n2 y2) := HK.out.cell 2
 clear hK1 hK2 hK3 hl1 hl2 hl3 hR h0 h1 hj hb hI F0 LOW hRR
 go_enter Tryz.func24, Tryz.ntmps24
 go_wp2_with (go_at_call 71; fail)
 clear hw1 c2 hZ
 refine (HBL.out w1 HF.out).mono ?_
 rintro e w2 ⟨u, rfl, hu, hf⟩
 obtain ⟨ua, un, uc, rfl⟩ := ownB_ps hu
 replace HF := Hdq (HF.out.trans hf)
 replace HK := Hdq (HK.out.keep0 hf)
 replace HP := Hdq (HP.out.keep0 hf)
 have HU := Hdq (hu.bs (A := fun _ => False) (fun _ h => h.elim))
 clear hu hf
 go_wp2
 refine rs2 w2 _ rfl (j : Int) (blk p.size + p.sent) (R : Int) (blk p.size) (blk p.size + (j : Int)) Z (Z + 1) x0 x1 x2 x3 x4 n0 n1 n2 n3 n4 y0 y1 y2 y3 y4 p (range_of HK.out) (range_of HP.out) (HP.out.cell 1) HD.out.1 HD.out.2.1 HD.out.2.2 rfl (fun v _ => HS.out v) (fun v hv => HQ.out v (HF.out.trans hv)) rfl rfl rfl _ ?_
 intro b v hd hs ho r10 hf
 rw [frame34 b hs hd, r10, show slot b 3 = .pointer (some ⟨Z, 0, none⟩) from ho 3 (by decide), show slot b 8 = .slice ua un uc from ho 8 (by decide)]
 replace HF := Hdq (HF.out.trans hf)
 replace HK := Hdq (HK.out.keep0 hf)
 replace HU := Hdq (bs_low (HU.out.keep hf (by simp)))
 have c3 : v.cell? ⟨Z, 3, none⟩ = some (.slice x3 n3 y3) := HK.out.cell 3
 clear hf ho hs hd r10
 go_wp2_with (go_at_call 17; fail)
 clear c3
 refine (rtag16_any v (.slice x3 n3 y3) (.slice ua un uc) kT (strL kS (j : Int)) (R : Int) (HK3.out _ HF.out) HU.out HL3.out (by rw [strL_len]; decide) (HR.out _ HF.out)).mono ?_
 rintro e w4 ⟨z, rfl, hz, hf⟩
 have HZ4 := Hdq (hz.base (base' := w0.heap.size) HF.out.size)
 have HF4 := Hdq (HF.out.trans hf)
 clear hz hf
 go_wp2
 go_ret2
 exact ⟨_, rfl, HZ4.out, HF4.out⟩
end Go.Proofs.YtnafknkchbfpaaaGreatDoor
