import Derived.Test.YtnafknkchbfpaaaGreatDoorGN
set_option linter.unusedVariables false
set_option linter.unusedSimpArgs false
set_option maxRecDepth 1000000
set_option maxHeartbeats 8000000
namespace Go.Proofs.YtnafknkchbfpaaaGreatDoor
open Go.RowKit Go.Bl
noncomputable def qeC : Code := ((Tryz.f31.body.bind (qr 27)).getD .skip)
theorem qfg (w : World) (a : Go.Act) (hsz : a.tmps.size = 305) (wb t : Nat) (S : St8) (kk x : UInt32) (ht : t < 64) (cK : w.cell? ⟨21, t, none⟩ = some (.int .u32 (wN kk))) (cX : w.cell? ⟨wb, t, none⟩ = some (.int .u32 (wN x))) (h20 : slot a 20 = .int .u32 (wN (S.h))) (h17 : slot a 17 = .int .u32 (wN (S.e))) (h18 : slot a 18 = .int .u32 (wN (S.f))) (h19 : slot a 19 = .int .u32 (wN (S.g))) (h21 : slot a 21 = .int .i64 (t : Int)) (h8 : slot a 8 = .pointer (some ⟨wb, 0, none⟩)) (Q : Exit -> Go.Act -> World -> Prop)
  (hQ : ∀ (b : Go.Act) (p : World), b.defers = a.defers -> b.tmps.size = 305 -> (∀ s, s ∉ ([172, 173, 174, 175, 176, 177, 178, 179, 180, 181, 182, 183, 184, 185, 186, 187, 188, 189, 190, 191, 192, 193, 194, 195, 196, 197, 198, 22] : List Nat) -> slot b s = slot a s) -> slot b 22 = .int .u32 (wN (S.h + (qv S.e 6 ^^^ qv S.e 11 ^^^ qv S.e 25) + (S.e &&& S.f ^^^ ~~~ S.e &&& S.g) + kk + x)) -> Fr [] w p -> Q .normal b p) : Code.wp Tryz.prog qeC Q a w := by
 conv => arg 2; whnf
 refine qV qb qb [some 172, some 173, some 174, some 175, some 176, some 177, some 178, some 179, some 180, some 181, some 182, some 183, some 184, some 185, some 186, some 187, some 188, some 189, some 190, some 191, some 192, some 193, some 194, some 195, some 196, some 197, some 198, some 22] [2, 4, 7] [.rd (.int .u32 (wN (S.h))) 3, .rd (.int .u32 (wN (S.e))) 3, .st 0, .rd (.int .u32 (wN (S.e))) 3, .st 1, .rd (.int .u32 (wN (qv S.e 6 ^^^ qv S.e 11))) 3, .rd (.int .u32 (wN (S.e))) 3, .st 2, .rd (.int .u32 (wN (qv S.e 6 ^^^ qv S.e 11 ^^^ qv S.e 25))) 3, .rd (.int .u32 (wN (S.h + (qv S.e 6 ^^^ qv S.e 11 ^^^ qv S.e 25)))) 3, .rd (.int .u32 (wN (S.e))) 3, .rd (.int .u32 (wN (S.f))) 3, .rd (.int .u32 (wN (S.e &&& S.f))) 3, .rd (.int .u32 (wN (S.e))) 3, .rd (.int .u32 (wN (~~~ S.e))) 3, .rd (.int .u32 (wN (S.g))) 3, .rd (.int .u32 (wN (~~~ S.e &&& S.g))) 3, .rd (.int .u32 (wN (S.e &&& S.f ^^^ ~~~ S.e &&& S.g))) 3, .rd (.int .u32 (wN (S.h + (qv S.e 6 ^^^ qv S.e 11 ^^^ qv S.e 25) + (S.e &&& S.f ^^^ ~~~ S.e &&& S.g)))) 3, .rd (.int .i64 (t : Int)) 3, .rd (.pointer (some ⟨21, t, none⟩)) 3, .rd (.int .u32 (wN (kk))) 3, .rd (.int .u32 (wN (S.h + (qv S.e 6 ^^^ qv S.e 11 ^^^ qv S.e 25) + (S.e &&& S.f ^^^ ~~~ S.e &&& S.g) + kk))) 3, .rd (.int .i64 (t : Int)) 3, .rd (.pointer (some ⟨wb, t, none⟩)) 3, .rd (.int .u32 (wN (x))) 3, .rd (.int .u32 (wN (S.h + (qv S.e 6 ^^^ qv S.e 11 ^^^ qv S.e 25) + (S.e &&& S.f ^^^ ~~~ S.e &&& S.g) + kk + x))) 3, .rd (.int .u32 (wN (S.h + (qv S.e 6 ^^^ qv S.e 11 ^^^ qv S.e 25) + (S.e &&& S.f ^^^ ~~~ S.e &&& S.g) + kk + x))) 3] (fun cj => if cj = 0 then (.int .u32 (wN (qv S.e 6))) else if cj = 1 then (.int .u32 (wN (qv S.e 11))) else if cj = 2 then (.int .u32 (wN (qv S.e 25))) else undef) (fun s g p => Fr [] w p) qb Y72 Y94 qb qb qa ?_ ⟨?_, ?_, ?_, ?_, ?_, ?_, ?_, ?_, ?_, ?_, ?_, ?_, ?_, ?_, ?_, ?_, ?_, ?_, ?_, ?_, ?_, ?_, ?_, ?_, ?_, ?_, ?_, ?_, trivial⟩ ?_
 ·intro w1 hw1
  exact ⟨fun _ => undef, hw1⟩
 ·refine ⟨⟨172, rfl⟩, .inl rfl, fun b p s g hs hlow hS h => ?_⟩
  have e0 := h.eo qa h20
  exact Y0
 ·refine ⟨⟨173, rfl⟩, .inl rfl, fun b p s g hs hlow hS h => ?_⟩
  have e0 := h.eo qa h17
  exact Y0
 ·refine ⟨rfl, .inl rfl, fun b p g hS h => ?_⟩
  have e0 := h.er 1 173 qb rfl rfl
  have e1 : b.eval (.const (.int .u64 6)) = .int .u64 6 := rfl
  have hf := hS
  refine qJ _ Y72 (ql rfl) 81 _ _ rfl #[.int .u32 (wN (S.e)), .int .u64 6] Y68 Y74 ((xl S.e 6 qa qa p).mono ?_)
  exact Y41
 ·refine ⟨⟨175, rfl⟩, .inl rfl, fun b p s g hs hlow hS h => ?_⟩
  have e0 := h.eo qa h17
  exact Y0
 ·refine ⟨rfl, .inr ⟨2, rfl, by kernel_rfl⟩, fun b p g hS h => ?_⟩
  have e0 := h.er 3 175 qb rfl rfl
  have e1 : b.eval (.const (.int .u64 11)) = .int .u64 11 := rfl
  have hf := hS
  refine qJ _ Y72 (ql rfl) 81 _ _ rfl #[.int .u32 (wN (S.e)), .int .u64 11] Y68 Y74 ((xl S.e 11 qa qa p).mono ?_)
  exact Y41
 ·refine ⟨⟨177, rfl⟩, .inl rfl, fun b p s g hs hlow hS h => ?_⟩
  have e0 := (show b.eval (.tmp 174) = .int .u32 (wN (qv S.e 6)) from h.st 2 _ 174 qb rfl rfl)
  have e1 := (show b.eval (.tmp 176) = .int .u32 (wN (qv S.e 11)) from h.st 4 _ 176 qb rfl rfl)
  exact Y11
 ·refine ⟨⟨178, rfl⟩, .inl rfl, fun b p s g hs hlow hS h => ?_⟩
  have e0 := h.eo qa h17
  exact Y0
 ·refine ⟨rfl, .inr ⟨4, rfl, by kernel_rfl⟩, fun b p g hS h => ?_⟩
  have e0 := h.er 6 178 qb rfl rfl
  have e1 : b.eval (.const (.int .u64 25)) = .int .u64 25 := rfl
  have hf := hS
  refine qJ _ Y72 (ql rfl) 81 _ _ rfl #[.int .u32 (wN (S.e)), .int .u64 25] Y68 Y74 ((xl S.e 25 qa qa p).mono ?_)
  exact Y41
 ·refine ⟨⟨180, rfl⟩, .inl rfl, fun b p s g hs hlow hS h => ?_⟩
  have e0 := h.er 5 177 qb rfl rfl
  have e1 := (show b.eval (.tmp 179) = .int .u32 (wN (qv S.e 25)) from h.st 7 _ 179 qb rfl rfl)
  exact Y11
 ·refine ⟨⟨181, rfl⟩, .inl rfl, fun b p s g hs hlow hS h => ?_⟩
  have e0 := h.er 0 172 qb rfl rfl
  have e1 := h.er 8 180 qb rfl rfl
  exact Y6
 ·refine ⟨⟨182, rfl⟩, .inl rfl, fun b p s g hs hlow hS h => ?_⟩
  have e0 := h.eo qa h17
  exact Y0
 ·refine ⟨⟨183, rfl⟩, .inl rfl, fun b p s g hs hlow hS h => ?_⟩
  have e0 := h.eo qa h18
  exact Y0
 ·refine ⟨⟨184, rfl⟩, .inl rfl, fun b p s g hs hlow hS h => ?_⟩
  have e0 := h.er 10 182 qb rfl rfl
  have e1 := h.er 11 183 qb rfl rfl
  refine gw0 rfl rfl ?_
  obtain ⟨ρ, hρ, ec⟩ := evx b
  rw [hρ] at e0 e1 ⊢
  unfold execOp; simp [go_sem, e0, e1, ec, Kl]
 ·refine ⟨⟨185, rfl⟩, .inl rfl, fun b p s g hs hlow hS h => ?_⟩
  have e0 := h.eo qa h17
  exact Y0
 ·refine ⟨⟨186, rfl⟩, .inl rfl, fun b p s g hs hlow hS h => ?_⟩
  have e0 := h.er 13 185 qb rfl rfl
  refine gw0 rfl rfl ?_
  obtain ⟨ρ, hρ, ec⟩ := evx b
  rw [hρ] at e0 ⊢
  unfold execOp; simp [go_sem, e0, ec, show (if IntKind.u32.signed = true then -1 else IntKind.u32.max) = IntKind.u32.max from rfl, qaq]
 ·refine ⟨⟨187, rfl⟩, .inl rfl, fun b p s g hs hlow hS h => ?_⟩
  have e0 := h.eo qa h19
  exact Y0
 ·refine ⟨⟨188, rfl⟩, .inl rfl, fun b p s g hs hlow hS h => ?_⟩
  have e0 := h.er 14 186 qb rfl rfl
  have e1 := h.er 15 187 qb rfl rfl
  refine gw0 rfl rfl ?_
  obtain ⟨ρ, hρ, ec⟩ := evx b
  rw [hρ] at e0 e1 ⊢
  unfold execOp; simp [go_sem, e0, e1, ec, Kl]
 ·refine ⟨⟨189, rfl⟩, .inl rfl, fun b p s g hs hlow hS h => ?_⟩
  have e0 := h.er 12 184 qb rfl rfl
  have e1 := h.er 16 188 qb rfl rfl
  exact Y11
 ·refine ⟨⟨190, rfl⟩, .inl rfl, fun b p s g hs hlow hS h => ?_⟩
  have e0 := h.er 9 181 qb rfl rfl
  have e1 := h.er 17 189 qb rfl rfl
  exact Y6
 ·refine ⟨⟨191, rfl⟩, .inl rfl, fun b p s g hs hlow hS h => ?_⟩
  have e0 := h.eo qa h21
  exact Y0
 ·refine ⟨⟨192, rfl⟩, .inl rfl, fun b p s g hs hlow hS h => ?_⟩
  have e0 := h.er 19 191 qb rfl rfl
  have ec : ∀ v, b.eval (.const v) = v := fun _ => rfl
  have eg : ∀ k, b.eval (.global k) = .pointer (some ⟨k, 0, none⟩) := fun _ => rfl
  refine gw0 rfl rfl ?_
  obtain ⟨ρ, hρ⟩ := exq (b.eval)
  rw [hρ] at e0 ec eg ⊢
  unfold execOp; simp [go_sem, e0, ec, eg, show (t : Int) < 64 by omega, show t < 64 by omega]
 ·refine ⟨⟨193, rfl⟩, .inl rfl, fun b p s g hs hlow hS h => ?_⟩
  have e0 := h.er 20 192 qb rfl rfl
  have hf := hS
  have c0 := (show p.cell? ⟨21, t, none⟩ = some (.int .u32 (wN (kk))) from (qs hf qc cK))
  exact Y2
 ·refine ⟨⟨194, rfl⟩, .inl rfl, fun b p s g hs hlow hS h => ?_⟩
  have e0 := h.er 18 190 qb rfl rfl
  have e1 := h.er 21 193 qb rfl rfl
  exact Y6
 ·refine ⟨⟨195, rfl⟩, .inl rfl, fun b p s g hs hlow hS h => ?_⟩
  have e0 := h.eo qa h21
  exact Y0
 ·refine ⟨⟨196, rfl⟩, .inl rfl, fun b p s g hs hlow hS h => ?_⟩
  have e0 := h.eo qa h8
  have e1 := h.er 23 195 qb rfl rfl
  exact Y18
 ·refine ⟨⟨197, rfl⟩, .inl rfl, fun b p s g hs hlow hS h => ?_⟩
  have e0 := h.er 24 196 qb rfl rfl
  have hf := hS
  have c0 := (show p.cell? ⟨wb, t, none⟩ = some (.int .u32 (wN (x))) from (qs hf qc cX))
  exact Y2
 ·refine ⟨⟨198, rfl⟩, .inl rfl, fun b p s g hs hlow hS h => ?_⟩
  have e0 := h.er 22 194 qb rfl rfl
  have e1 := h.er 25 197 qb rfl rfl
  exact Y6
 ·refine ⟨⟨22, rfl⟩, .inl rfl, fun b p s g hs hlow hS h => ?_⟩
  have e0 := h.er 26 198 qb rfl rfl
  exact Y0
 ·intro b p h1 h2 h3 h4 h5
  obtain ⟨g, h4, h6⟩ := h4
  have r22 : slot b 22 = .int .u32 (wN (S.h + (qv S.e 6 ^^^ qv S.e 11 ^^^ qv S.e 25) + (S.e &&& S.f ^^^ ~~~ S.e &&& S.g) + kk + x)) := h5 27 (.int .u32 (wN (S.h + (qv S.e 6 ^^^ qv S.e 11 ^^^ qv S.e 25) + (S.e &&& S.f ^^^ ~~~ S.e &&& S.g) + kk + x))) _ 22 rfl rfl
  exact hQ b p h1 (h2.trans hsz) (fun s hs => h3 s (fun hm => hs WN)) r22 h4
noncomputable def qdD : Code := ((Tryz.f31.body.bind (qr 21)).getD .skip)
theorem qey (w : World) (a : Go.Act) (hsz : a.tmps.size = 305) (wb t : Nat) (ws : List UInt32) (hws : WAt w wb 158 ws) (hwl : ws.length = 64) (h16 : 16 <= t) (h64 : t < 64) (h8 : slot a 8 = .pointer (some ⟨wb, 0, none⟩)) (h10 : slot a 10 = .int .i64 (t : Int)) (Q : Exit -> Go.Act -> World -> Prop)
  (hQ : ∀ (b : Go.Act) (p : World), b.defers = a.defers -> b.tmps.size = 305 -> (∀ s, s ∉ ([115, 116, 117, 118, 119, 120, 121, 122, 11, 12] : List Nat) -> slot b s = slot a s) -> slot b 11 = .int .u32 (wN (ws.getD (t - 2) 0)) -> slot b 12 = .int .u32 (wN (ws.getD (t - 15) 0)) -> Fr [] w p -> Q .normal b p) : Code.wp Tryz.prog qdD Q a w := by
 conv => arg 2; whnf
 refine qV qb qb [some 115, some 116, some 117, some 118, some 119, some 120, some 121, some 122, some 11, some 12] [] [.rd (.int .i64 (t : Int)) 0, .rd (.int .i64 ((t - 2 : Nat) : Int)) 0, .rd (.pointer (some ⟨wb, t - 2, none⟩)) 0, .rd (.int .u32 (wN (ws.getD (t - 2) 0))) 0, .rd (.int .i64 (t : Int)) 0, .rd (.int .i64 ((t - 15 : Nat) : Int)) 0, .rd (.pointer (some ⟨wb, t - 15, none⟩)) 0, .rd (.int .u32 (wN (ws.getD (t - 15) 0))) 0, .rd (.int .u32 (wN (ws.getD (t - 2) 0))) 0, .rd (.int .u32 (wN (ws.getD (t - 15) 0))) 0] (fun cj => undef) (fun s g p => Fr [] w p) qb Y72 Y94 qb qb qa ?_ ⟨?_, ?_, ?_, ?_, ?_, ?_, ?_, ?_, ?_, ?_, trivial⟩ ?_
 ·intro w1 hw1
  exact ⟨fun _ => undef, hw1⟩
 ·refine ⟨⟨115, rfl⟩, .inl rfl, fun b p s g hs hlow hS h => ?_⟩
  have e0 := h.eo qa h10
  exact Y0
 ·refine ⟨⟨116, rfl⟩, .inl rfl, fun b p s g hs hlow hS h => ?_⟩
  have e0 := h.er 0 115 qb rfl rfl
  exact Y36
 ·refine ⟨⟨117, rfl⟩, .inl rfl, fun b p s g hs hlow hS h => ?_⟩
  have e0 := h.eo qa h8
  have e1 := h.er 1 116 qb rfl rfl
  exact Y44
 ·refine ⟨⟨118, rfl⟩, .inl rfl, fun b p s g hs hlow hS h => ?_⟩
  have e0 := h.er 2 117 qb rfl rfl
  have hf := hS
  have c0 := (show p.cell? ⟨wb, t - 2, none⟩ = some (.int .u32 (wN (ws.getD (t - 2) 0))) from (qs hf qc (WAt.cell hws Y66)))
  exact Y2
 ·refine ⟨⟨119, rfl⟩, .inl rfl, fun b p s g hs hlow hS h => ?_⟩
  have e0 := h.eo qa h10
  exact Y0
 ·refine ⟨⟨120, rfl⟩, .inl rfl, fun b p s g hs hlow hS h => ?_⟩
  have e0 := h.er 4 119 qb rfl rfl
  exact Y34
 ·refine ⟨⟨121, rfl⟩, .inl rfl, fun b p s g hs hlow hS h => ?_⟩
  have e0 := h.eo qa h8
  have e1 := h.er 5 120 qb rfl rfl
  exact Y42
 ·refine ⟨⟨122, rfl⟩, .inl rfl, fun b p s g hs hlow hS h => ?_⟩
  have e0 := h.er 6 121 qb rfl rfl
  have hf := hS
  have c0 := (show p.cell? ⟨wb, t - 15, none⟩ = some (.int .u32 (wN (ws.getD (t - 15) 0))) from (qs hf qc (WAt.cell hws Y66)))
  exact Y2
 ·refine ⟨⟨11, rfl⟩, .inl rfl, fun b p s g hs hlow hS h => ?_⟩
  have e0 := h.er 3 118 qb rfl rfl
  exact Y0
 ·refine ⟨⟨12, rfl⟩, .inl rfl, fun b p s g hs hlow hS h => ?_⟩
  have e0 := h.er 7 122 qb rfl rfl
  exact Y0
 ·intro b p h1 h2 h3 h4 h5
  obtain ⟨g, h4, h6⟩ := h4
  have r11 : slot b 11 = .int .u32 (wN (ws.getD (t - 2) 0)) := h5 8 (.int .u32 (wN (ws.getD (t - 2) 0))) _ 11 rfl rfl
  have r12 : slot b 12 = .int .u32 (wN (ws.getD (t - 15) 0)) := h5 9 (.int .u32 (wN (ws.getD (t - 15) 0))) _ 12 rfl rfl
  exact hQ b p h1 (h2.trans hsz) (fun s hs => h3 s (fun hm => hs WN)) r11 r12 h4
noncomputable def qdf : Code := ((Tryz.f31.body.bind (qr 23)).getD .skip)
theorem qeq (w : World) (a : Go.Act) (hsz : a.tmps.size = 305) (sb : Nat) (S : St8) (hS0 : WAt w sb 157 S.l) (h6 : slot a 6 = .pointer (some ⟨sb, 0, none⟩)) (Q : Exit -> Go.Act -> World -> Prop)
  (hQ : ∀ (b : Go.Act) (p : World), b.defers = a.defers -> b.tmps.size = 305 -> (∀ s, s ∉ ([152, 153, 154, 155, 156, 157, 158, 159, 160, 161, 162, 163, 164, 165, 166, 167, 13, 14, 15, 16, 17, 18, 19, 20] : List Nat) -> slot b s = slot a s) -> slot b 13 = .int .u32 (wN (S.a)) -> slot b 14 = .int .u32 (wN (S.b)) -> slot b 15 = .int .u32 (wN (S.c)) -> slot b 16 = .int .u32 (wN (S.d)) -> slot b 17 = .int .u32 (wN (S.e)) -> slot b 18 = .int .u32 (wN (S.f)) -> slot b 19 = .int .u32 (wN (S.g)) -> slot b 20 = .int .u32 (wN (S.h)) -> Fr [] w p -> Q .normal b p) : Code.wp Tryz.prog qdf Q a w := by
 conv => arg 2; whnf
 refine qV qb qb [some 152, some 153, some 154, some 155, some 156, some 157, some 158, some 159, some 160, some 161, some 162, some 163, some 164, some 165, some 166, some 167, some 13, some 14, some 15, some 16, some 17, some 18, some 19, some 20] [] [.rd (.pointer (some ⟨sb, 0, none⟩)) 0, .rd (.int .u32 (wN (S.a))) 0, .rd (.pointer (some ⟨sb, 1, none⟩)) 0, .rd (.int .u32 (wN (S.b))) 0, .rd (.pointer (some ⟨sb, 2, none⟩)) 0, .rd (.int .u32 (wN (S.c))) 0, .rd (.pointer (some ⟨sb, 3, none⟩)) 0, .rd (.int .u32 (wN (S.d))) 0, .rd (.pointer (some ⟨sb, 4, none⟩)) 0, .rd (.int .u32 (wN (S.e))) 0, .rd (.pointer (some ⟨sb, 5, none⟩)) 0, .rd (.int .u32 (wN (S.f))) 0, .rd (.pointer (some ⟨sb, 6, none⟩)) 0, .rd (.int .u32 (wN (S.g))) 0, .rd (.pointer (some ⟨sb, 7, none⟩)) 0, .rd (.int .u32 (wN (S.h))) 0, .rd (.int .u32 (wN (S.a))) 0, .rd (.int .u32 (wN (S.b))) 0, .rd (.int .u32 (wN (S.c))) 0, .rd (.int .u32 (wN (S.d))) 0, .rd (.int .u32 (wN (S.e))) 0, .rd (.int .u32 (wN (S.f))) 0, .rd (.int .u32 (wN (S.g))) 0, .rd (.int .u32 (wN (S.h))) 0] (fun cj => undef) (fun s g p => Fr [] w p) qb Y72 Y94 qb qb qa ?_ ⟨?_, ?_, ?_, ?_, ?_, ?_, ?_, ?_, ?_, ?_, ?_, ?_, ?_, ?_, ?_, ?_, ?_, ?_, ?_, ?_, ?_, ?_, ?_, ?_, trivial⟩ ?_
 ·intro w1 hw1
  exact ⟨fun _ => undef, hw1⟩
 ·refine ⟨⟨152, rfl⟩, .inl rfl, fun b p s g hs hlow hS h => ?_⟩
  have e0 := h.eo qa h6
  exact Y0
 ·refine ⟨⟨153, rfl⟩, .inl rfl, fun b p s g hs hlow hS h => ?_⟩
  have e0 := h.er 0 152 qb rfl rfl
  have hf := hS
  have c0 := (show p.cell? ⟨sb, 0, none⟩ = some (.int .u32 (wN (S.a))) from (qs hf qc (WAt.cell hS0 (i := 0) (show 0 < 8 by decide))))
  exact Y2
 ·refine ⟨⟨154, rfl⟩, .inl rfl, fun b p s g hs hlow hS h => ?_⟩
  have e0 := h.eo qa h6
  exact Y0
 ·refine ⟨⟨155, rfl⟩, .inl rfl, fun b p s g hs hlow hS h => ?_⟩
  have e0 := h.er 2 154 qb rfl rfl
  have hf := hS
  have c0 := (show p.cell? ⟨sb, 1, none⟩ = some (.int .u32 (wN (S.b))) from (qs hf qc (WAt.cell hS0 (i := 1) (show 1 < 8 by decide))))
  exact Y2
 ·refine ⟨⟨156, rfl⟩, .inl rfl, fun b p s g hs hlow hS h => ?_⟩
  have e0 := h.eo qa h6
  exact Y0
 ·refine ⟨⟨157, rfl⟩, .inl rfl, fun b p s g hs hlow hS h => ?_⟩
  have e0 := h.er 4 156 qb rfl rfl
  have hf := hS
  have c0 := (show p.cell? ⟨sb, 2, none⟩ = some (.int .u32 (wN (S.c))) from (qs hf qc (WAt.cell hS0 (i := 2) (show 2 < 8 by decide))))
  exact Y2
 ·refine ⟨⟨158, rfl⟩, .inl rfl, fun b p s g hs hlow hS h => ?_⟩
  have e0 := h.eo qa h6
  exact Y0
 ·refine ⟨⟨159, rfl⟩, .inl rfl, fun b p s g hs hlow hS h => ?_⟩
  have e0 := h.er 6 158 qb rfl rfl
  have hf := hS
  have c0 := (show p.cell? ⟨sb, 3, none⟩ = some (.int .u32 (wN (S.d))) from (qs hf qc (WAt.cell hS0 (i := 3) (show 3 < 8 by decide))))
  exact Y2
 ·refine ⟨⟨160, rfl⟩, .inl rfl, fun b p s g hs hlow hS h => ?_⟩
  have e0 := h.eo qa h6
  exact Y0
 ·refine ⟨⟨161, rfl⟩, .inl rfl, fun b p s g hs hlow hS h => ?_⟩
  have e0 := h.er 8 160 qb rfl rfl
  have hf := hS
  have c0 := (show p.cell? ⟨sb, 4, none⟩ = some (.int .u32 (wN (S.e))) from (qs hf qc (WAt.cell hS0 (i := 4) (show 4 < 8 by decide))))
  exact Y2
 ·refine ⟨⟨162, rfl⟩, .inl rfl, fun b p s g hs hlow hS h => ?_⟩
  have e0 := h.eo qa h6
  exact Y0
 ·refine ⟨⟨163, rfl⟩, .inl rfl, fun b p s g hs hlow hS h => ?_⟩
  have e0 := h.er 10 162 qb rfl rfl
  have hf := hS
  have c0 := (show p.cell? ⟨sb, 5, none⟩ = some (.int .u32 (wN (S.f))) from (qs hf qc (WAt.cell hS0 (i := 5) (show 5 < 8 by decide))))
  exact Y2
 ·refine ⟨⟨164, rfl⟩, .inl rfl, fun b p s g hs hlow hS h => ?_⟩
  have e0 := h.eo qa h6
  exact Y0
 ·refine ⟨⟨165, rfl⟩, .inl rfl, fun b p s g hs hlow hS h => ?_⟩
  have e0 := h.er 12 164 qb rfl rfl
  have hf := hS
  have c0 := (show p.cell? ⟨sb, 6, none⟩ = some (.int .u32 (wN (S.g))) from (qs hf qc (WAt.cell hS0 (i := 6) (show 6 < 8 by decide))))
  exact Y2
 ·refine ⟨⟨166, rfl⟩, .inl rfl, fun b p s g hs hlow hS h => ?_⟩
  have e0 := h.eo qa h6
  exact Y0
 ·refine ⟨⟨167, rfl⟩, .inl rfl, fun b p s g hs hlow hS h => ?_⟩
  have e0 := h.er 14 166 qb rfl rfl
  have hf := hS
  have c0 := (show p.cell? ⟨sb, 7, none⟩ = some (.int .u32 (wN (S.h))) from (qs hf qc (WAt.cell hS0 (i := 7) (show 7 < 8 by decide))))
  exact Y2
 ·refine ⟨⟨13, rfl⟩, .inl rfl, fun b p s g hs hlow hS h => ?_⟩
  have e0 := h.er 1 153 qb rfl rfl
  exact Y0
 ·refine ⟨⟨14, rfl⟩, .inl rfl, fun b p s g hs hlow hS h => ?_⟩
  have e0 := h.er 3 155 qb rfl rfl
  exact Y0
 ·refine ⟨⟨15, rfl⟩, .inl rfl, fun b p s g hs hlow hS h => ?_⟩
  have e0 := h.er 5 157 qb rfl rfl
  exact Y0
 ·refine ⟨⟨16, rfl⟩, .inl rfl, fun b p s g hs hlow hS h => ?_⟩
  have e0 := h.er 7 159 qb rfl rfl
  exact Y0
 ·refine ⟨⟨17, rfl⟩, .inl rfl, fun b p s g hs hlow hS h => ?_⟩
  have e0 := h.er 9 161 qb rfl rfl
  exact Y0
 ·refine ⟨⟨18, rfl⟩, .inl rfl, fun b p s g hs hlow hS h => ?_⟩
  have e0 := h.er 11 163 qb rfl rfl
  exact Y0
 ·refine ⟨⟨19, rfl⟩, .inl rfl, fun b p s g hs hlow hS h => ?_⟩
  have e0 := h.er 13 165 qb rfl rfl
  exact Y0
 ·refine ⟨⟨20, rfl⟩, .inl rfl, fun b p s g hs hlow hS h => ?_⟩
  have e0 := h.er 15 167 qb rfl rfl
  exact Y0
 ·intro b p h1 h2 h3 h4 h5
  obtain ⟨g, h4, h6⟩ := h4
  have r13 : slot b 13 = .int .u32 (wN (S.a)) := h5 16 (.int .u32 (wN (S.a))) _ 13 rfl rfl
  have r14 : slot b 14 = .int .u32 (wN (S.b)) := h5 17 (.int .u32 (wN (S.b))) _ 14 rfl rfl
  have r15 : slot b 15 = .int .u32 (wN (S.c)) := h5 18 (.int .u32 (wN (S.c))) _ 15 rfl rfl
  have r16 : slot b 16 = .int .u32 (wN (S.d)) := h5 19 (.int .u32 (wN (S.d))) _ 16 rfl rfl
  have r17 : slot b 17 = .int .u32 (wN (S.e)) := h5 20 (.int .u32 (wN (S.e))) _ 17 rfl rfl
  have r18 : slot b 18 = .int .u32 (wN (S.f)) := h5 21 (.int .u32 (wN (S.f))) _ 18 rfl rfl
  have r19 : slot b 19 = .int .u32 (wN (S.g)) := h5 22 (.int .u32 (wN (S.g))) _ 19 rfl rfl
  have r20 : slot b 20 = .int .u32 (wN (S.h)) := h5 23 (.int .u32 (wN (S.h))) _ 20 rfl rfl
  exact hQ b p h1 (h2.trans hsz) (fun s hs => h3 s (fun hm => hs WN)) r13 r14 r15 r16 r17 r18 r19 r20 h4
end Go.Proofs.YtnafknkchbfpaaaGreatDoor
