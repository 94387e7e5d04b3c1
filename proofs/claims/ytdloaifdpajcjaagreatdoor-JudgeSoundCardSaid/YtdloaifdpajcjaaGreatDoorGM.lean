import Derived.Test.YtdloaifdpajcjaaGreatDoorGK
set_option linter.unusedVariables false
set_option linter.unusedSimpArgs false
set_option maxRecDepth 1000000
set_option maxHeartbeats 8000000
namespace Go.Proofs.YtdloaifdpajcjaaGreatDoor
open Go.RowKit Go.Bl
theorem xh (a : Go.Act) (hs : a.tmps.size = 102) (hd : a.defers = []) : a = ⟨(slot a 0 :: slot a 1 :: slot a 2 :: slot a 3 :: slot a 4 :: slot a 5 :: slot a 6 :: slot a 7 :: slot a 8 :: slot a 9 :: slot a 10 :: slot a 11 :: slot a 12 :: slot a 13 :: slot a 14 :: slot a 15 :: slot a 16 :: slot a 17 :: slot a 18 :: slot a 19 :: slot a 20 :: slot a 21 :: slot a 22 :: slot a 23 :: slot a 24 :: slot a 25 :: slot a 26 :: slot a 27 :: slot a 28 :: slot a 29 :: slot a 30 :: slot a 31 :: slot a 32 :: slot a 33 :: slot a 34 :: slot a 35 :: slot a 36 :: slot a 37 :: slot a 38 :: slot a 39 :: slot a 40 :: slot a 41 :: slot a 42 :: slot a 43 :: slot a 44 :: slot a 45 :: slot a 46 :: slot a 47 :: slot a 48 :: slot a 49 :: slot a 50 :: slot a 51 :: slot a 52 :: slot a 53 :: slot a 54 :: slot a 55 :: slot a 56 :: slot a 57 :: slot a 58 :: slot a 59 :: slot a 60 :: slot a 61 :: slot a 62 :: slot a 63 :: slot a 64 :: slot a 65 :: slot a 66 :: slot a 67 :: slot a 68 :: slot a 69 :: slot a 70 :: slot a 71 :: slot a 72 :: slot a 73 :: slot a 74 :: slot a 75 :: slot a 76 :: slot a 77 :: slot a 78 :: slot a 79 :: slot a 80 :: slot a 81 :: slot a 82 :: slot a 83 :: slot a 84 :: slot a 85 :: slot a 86 :: slot a 87 :: slot a 88 :: slot a 89 :: slot a 90 :: slot a 91 :: slot a 92 :: slot a 93 :: slot a 94 :: slot a 95 :: slot a 96 :: slot a 97 :: slot a 98 :: slot a 99 :: slot a 100 :: slot a 101 :: []).toArray, []⟩ := Lp a 102 hs hd
noncomputable def qfY : Code := ((Tryz.f106.body.bind (qV 14)).getD .skip)
theorem qha (w : World) (a : Go.Act) (hsz : a.tmps.size = 102) (sb wb k : Nat) (ws vs : List UInt32) (hws : WAt w sb 211 ws) (hvs : WAt w wb 211 vs) (hwl : ws.length = 8) (hvl : vs.length = 8) (hk : k < 8) (h2 : slot a 2 = .pointer (some ⟨sb, 0, none⟩)) (h5 : slot a 5 = .pointer (some ⟨wb, 0, none⟩)) (h12 : slot a 12 = .int .i64 (k : Int)) (Q : Exit -> Go.Act -> World -> Prop)
  (hQ : ∀ (b : Go.Act) (p : World), b.defers = a.defers -> b.tmps.size = 102 -> (∀ s, s ∉ ([92, 93, 94, 95, 96, 97, 98, 99] : List Nat) -> slot b s = slot a s) -> Fr [sb] w p -> WAt p sb 211 (ws.set k (ws.getD k 0 + vs.getD k 0)) -> Q .normal b p) : Code.wp Tryz.prog qfY Q a w := by
 conv => arg 2; whnf
 refine uL Y55 Y55 [some 92, some 93, some 94, some 95, some 96, some 97, some 98, some 99, none] [8] [.rd (.int .i64 (k : Int)) 1, .rd (.pointer (some ⟨sb, k, none⟩)) 1, .rd (.int .u32 (wN (ws.getD k 0))) 0, .rd (.int .i64 (k : Int)) 1, .rd (.pointer (some ⟨wb, k, none⟩)) 1, .rd (.int .u32 (wN (vs.getD k 0))) 0, .rd (.int .u32 (wN (ws.getD k 0 + vs.getD k 0))) 1, .rd (.pointer (some ⟨sb, k, none⟩)) 1, .st 0] (fun cj => undef) (fun s g p => Fr [sb] w p /\ (s <= 0 -> WAt p sb 211 (ws) /\ WAt p wb 211 vs) /\ (0 < s -> WAt p sb 211 (ws.set k (ws.getD k 0 + vs.getD k 0)))) Y55 Y72 (by rw [hsz]; rfl) Y55 Y55 Y86 ?_ ⟨?_, ?_, ?_, ?_, ?_, ?_, ?_, ?_, ?_, trivial⟩ ?_
 ·intro w1 hw1
  exact ⟨fun _ => undef, ⟨(hw1).weak, fun _ => ⟨hws.keep0 hw1, hvs.keep0 hw1⟩, fun hk => absurd hk Y86⟩⟩
 ·refine ⟨⟨92, rfl⟩, .inl rfl, fun b p s g hs hlow hS h => ?_⟩
  have e0 := h.eo Y86 h12
  exact Y1
 ·refine ⟨⟨93, rfl⟩, .inl rfl, fun b p s g hs hlow hS h => ?_⟩
  have e0 := h.eo Y86 h2
  have e1 := h.er 0 92 Y55 rfl rfl
  exact Y14
 ·refine ⟨⟨94, rfl⟩, .inr ⟨8, rfl, by kernel_rfl⟩, fun b p s g hs hlow hS h => ?_⟩
  have e0 := h.er 1 93 Y55 rfl rfl
  obtain ⟨hf, m0, m1⟩ := hS
  have c0 := (show p.cell? ⟨sb, k, none⟩ = some (.int .u32 (wN (ws.getD k 0))) from (WAt.cell (m0 hs).1 Y54))
  exact Y5
 ·refine ⟨⟨95, rfl⟩, .inl rfl, fun b p s g hs hlow hS h => ?_⟩
  have e0 := h.eo Y86 h12
  exact Y1
 ·refine ⟨⟨96, rfl⟩, .inl rfl, fun b p s g hs hlow hS h => ?_⟩
  have e0 := h.eo Y86 h5
  have e1 := h.er 3 95 Y55 rfl rfl
  exact Y14
 ·refine ⟨⟨97, rfl⟩, .inr ⟨8, rfl, by kernel_rfl⟩, fun b p s g hs hlow hS h => ?_⟩
  have e0 := h.er 4 96 Y55 rfl rfl
  obtain ⟨hf, m0, m1⟩ := hS
  have c0 := (show p.cell? ⟨wb, k, none⟩ = some (.int .u32 (wN (vs.getD k 0))) from (WAt.cell (m0 hs).2 Y54))
  exact Y5
 ·refine ⟨⟨98, rfl⟩, .inl rfl, fun b p s g hs hlow hS h => ?_⟩
  have e0 := h.er 2 94 Y55 rfl rfl
  have e1 := h.er 5 97 Y55 rfl rfl
  exact Y12
 ·refine ⟨⟨99, rfl⟩, .inl rfl, fun b p s g hs hlow hS h => ?_⟩
  have e0 := h.eo Y86 h2
  have e1 := h.er 0 92 Y55 rfl rfl
  exact Y14
 ·refine ⟨rfl, .inl rfl, fun b p g hS h => ?_⟩
  have e0 := h.er 7 99 Y55 rfl rfl
  have e1 := h.er 6 98 Y55 rfl rfl
  obtain ⟨hf, m0, m1⟩ := hS
  have hp := (m0 Y86).1
  refine jZ (K := fun _ p => Fr [sb] w p /\ WAt p sb 211 (ws.set k (ws.getD k 0 + vs.getD k 0))) (fun v p hv => ⟨⟨hv.1, fun hk => absurd hk Y86, fun _ => hv.2⟩, .inl rfl⟩) ?_
  obtain ⟨cur, k1, k2, -, k4⟩ := UY hp
  refine jm (K := fun _ p => Fr [sb] w p /\ WAt p sb 211 (ws.set k (ws.getD k 0 + vs.getD k 0))) _ Y72 ?_
  refine qw (.tmp 99) (.tmp 98) rfl rfl (.int .u32 (wN (ws.getD k 0 + vs.getD k 0))) e0 e1 k1 (by have := k2; omega) Y55 rfl ?_
  intro p1 f1 a1 _
  exact ⟨rfl, rfl, hf.trans f1, k4 p1 (k) _ a1⟩
 ·exact Y11
noncomputable def qg9 : Code := ((Tryz.f106.body.bind (zJ 3)).getD .skip)
theorem qdH (wr : World) (a : Go.Act) (hsz : a.tmps.size = 102) (hd : a.defers = []) (Z k : Nat) (ws : List UInt32) (S : St8) (x kk : UInt32) (h2 : slot a 2 = .pointer (some ⟨Z, 0, none⟩)) (h4 : slot a 4 = .pointer (some ⟨Z + 1, 0, none⟩)) (h5 : slot a 5 = .pointer (some ⟨Z + 2, 0, none⟩)) (h15 : slot a 15 = .agg (wA ws)) (h16 : slot a 16 = .int .i64 (k : Int)) (hk : k < 64) (hix : ∀ w, (Instr.index 281 (.agg (wA ws)) (.int .i64 (k : Int))).run Tryz.prog w = .ok (.int .u32 (wN x)) w) (cK : wr.cell? ⟨21, k, none⟩ = some (.int .u32 (wN kk))) (hB : WAt wr Z 211 S.l) (Q : Exit -> Go.Act -> World -> Prop)
  (hq : ∀ (c : Go.Act) (w' : World), c.defers = [] -> c.tmps.size = 102 -> slot c 2 = .pointer (some ⟨Z, 0, none⟩) -> slot c 4 = .pointer (some ⟨Z + 1, 0, none⟩) -> slot c 5 = .pointer (some ⟨Z + 2, 0, none⟩) -> slot c 15 = .agg (wA ws) -> slot c 16 = .int .i64 ((k : Int) + 1) -> WAt w' Z 211 (yl S kk x).l -> Fr [Z] wr w' -> Q .normal c w') : Code.wp Tryz.prog qg9 Q a wr := by
 have HQ := Hdq hq
 rw [xh a hsz hd, h2, h4, h5, h15, h16]
 clear hq h2 h4 h5 h15 h16 hsz hd
 conv => arg 2; whnf
 have hki : (k : Int) < 64 := by omega
 have c0 : wr.cell? ⟨Z, 0, none⟩ = some (.int .u32 (wN S.a)) := hB.cell (i := 0) (show 0 < 8 by decide)
 have c1 : wr.cell? ⟨Z, 1, none⟩ = some (.int .u32 (wN S.b)) := hB.cell (i := 1) (show 1 < 8 by decide)
 have c2 : wr.cell? ⟨Z, 2, none⟩ = some (.int .u32 (wN S.c)) := hB.cell (i := 2) (show 2 < 8 by decide)
 have c3 : wr.cell? ⟨Z, 3, none⟩ = some (.int .u32 (wN S.d)) := hB.cell (i := 3) (show 3 < 8 by decide)
 have c4 : wr.cell? ⟨Z, 4, none⟩ = some (.int .u32 (wN S.e)) := hB.cell (i := 4) (show 4 < 8 by decide)
 have c5 : wr.cell? ⟨Z, 5, none⟩ = some (.int .u32 (wN S.f)) := hB.cell (i := 5) (show 5 < 8 by decide)
 have c6 : wr.cell? ⟨Z, 6, none⟩ = some (.int .u32 (wN S.g)) := hB.cell (i := 6) (show 6 < 8 by decide)
 have c7 : wr.cell? ⟨Z, 7, none⟩ = some (.int .u32 (wN S.h)) := hB.cell (i := 7) (show 7 < 8 by decide)
 have HB := Hdq hB
 have HIX := Hdq hix
 have HS8 := Hdq (show (Tryz.prog.info? 211).map (·.size) = some (wA (yl S kk x).l).size by rw [show (wA (yl S kk x).l).size = 8 from rfl]; kernel_rfl)
 have r1 := qhH
 have r2 := qe5
 have r3 := qhv
 have r4 := qg3
 have r5 := w_add
 clear hB hix
 go_wp2_with (refine Xw (.tmp 15) (.tmp 16) rfl rfl (wA ws) k (.int .u32 (wN x)) rfl rfl HIX.out ?_)
 go_quiet ((go_at_call 166; exact Calls.quiet_of_same ((US _ 6 11 25 Y86 Y86 Y86 _).mono fun _ _ h => ⟨h.1, h.2.symm⟩)))
 go_wp2_with (first | (go_at_call 166; refine (US _ 2 13 22 Y86 Y86 Y86 _).mono ?_; rintro e w' ⟨rfl, rfl⟩) | (refine zM (.tmp 2) (.tmp 87) rfl rfl (wA (yl S kk x).l) rfl rfl HS8.out (HB.out.keep0 (Fr.of_heap rfl rfl rfl rfl)) rfl (QK _) ?_))
 intro w5 f5 a5 s5
 have HB5 := Hdq a5
 have HF5 := Hdq (show Fr [Z] wr w5 from (Fr.of_heap rfl rfl rfl rfl : Fr [Z] wr (wr.drewN nq)).trans f5)
 clear f5 a5 s5 HB
 go_wp2
 exact HQ.out _ _ rfl rfl rfl rfl rfl rfl (by go_num) HB5.out HF5.out
theorem qgm (wr : World) (a : Go.Act) (hsz : a.tmps.size = 102) (hd : a.defers = []) (Z : Nat) (ws : List UInt32) (h2 : slot a 2 = .pointer (some ⟨Z, 0, none⟩)) (h4 : slot a 4 = .pointer (some ⟨Z + 1, 0, none⟩)) (h5 : slot a 5 = .pointer (some ⟨Z + 2, 0, none⟩)) (h15 : slot a 15 = .agg (wA ws)) (h16 : slot a 16 = .int .i64 64)  (Q : Exit -> Go.Act -> World -> Prop)
  (hq : ∀ c : Go.Act, c.defers = [] -> c.tmps.size = 102 -> slot c 2 = .pointer (some ⟨Z, 0, none⟩) -> slot c 4 = .pointer (some ⟨Z + 1, 0, none⟩) -> slot c 5 = .pointer (some ⟨Z + 2, 0, none⟩) -> Q (.exit 0) c wr) : Code.wp Tryz.prog qg9 Q a wr := by
 have HQ := Hdq hq
 rw [xh a hsz hd, h2, h4, h5, h15, h16]
 clear hq h2 h4 h5 h15 h16 hsz hd
 conv => arg 2; whnf
 go_wp2
 apply HQ.out <;> rfl
theorem qgj (w0 : World) (a : Go.Act) (hsz : a.tmps.size = 102) (hd : a.defers = []) (Z : Nat) (ws : List UInt32) (s : St8) (h2 : slot a 2 = .pointer (some ⟨Z, 0, none⟩)) (h4 : slot a 4 = .pointer (some ⟨Z + 1, 0, none⟩)) (h5 : slot a 5 = .pointer (some ⟨Z + 2, 0, none⟩)) (h15 : slot a 15 = .agg (wA ws)) (h16 : slot a 16 = .int .i64 0) (hwl : ws.length = 64) (hK : KAt 21 w0) (hZ : 21 ≠ Z) (hB : WAt w0 Z 211 s.l) (Q : Exit -> Go.Act -> World -> Prop)
  (hq : ∀ (c : Go.Act) (w' : World), c.defers = [] -> c.tmps.size = 102 -> slot c 2 = .pointer (some ⟨Z, 0, none⟩) -> slot c 4 = .pointer (some ⟨Z + 1, 0, none⟩) -> slot c 5 = .pointer (some ⟨Z + 2, 0, none⟩) -> WAt w' Z 211 (zY s ws 64).l -> Fr [Z] w0 w' -> Q (.exit 0) c w') : Code.wp Tryz.prog (Code.loop qg9) Q a w0 := by
 refine wp_loop (fun a w => a.tmps.size = 102 /\ a.defers = [] /\ slot a 2 = .pointer (some ⟨Z, 0, none⟩) /\ slot a 4 = .pointer (some ⟨Z + 1, 0, none⟩) /\ slot a 5 = .pointer (some ⟨Z + 2, 0, none⟩) /\ slot a 15 = .agg (wA ws) /\ ∃ k : Nat, k <= 64 /\ slot a 16 = .int .i64 (k : Int) /\ WAt w Z 211 (zY s ws k).l /\ Fr [Z] w0 w) (fun a _ => 64 - kN (slot a 16)) ⟨hsz, hd, h2, h4, h5, h15, 0, by omega, h16, hB, Fr.refl _ _⟩ ?_
 clear h2 h4 h5 h15 h16 hsz hd hB
 rintro a wr ⟨hsz, hd, h2, h4, h5, h15, k, hk, h16, hB, hF⟩
 by_cases hk64 : k < 64
 ·refine qdH wr a hsz hd Z k ws (zY s ws k) (ws.getD k 0) (Qk.getD k 0) h2 h4 h5 h15 h16 hk64 (fun w => qcC ws k hwl hk64 w) (ux hF (by simpa using hZ) (hK k hk64)) hB _ ?_
  intro c w' kd ks q2 q4 q5 q15 q16 hB' hF'
  refine ⟨⟨ks, kd, q2, q4, q5, q15, k + 1, by omega, by rw [q16]; rfl, hB', hF.trans hF'⟩, ?_⟩
  rw [q16, h16]
  simp [kN]; omega
 ·obtain rfl : k = 64 := by omega
  refine qgm wr a hsz hd Z ws h2 h4 h5 h15 h16 _ ?_
  intro c kd ks q2 q4 q5
  exact hq c wr kd ks q2 q4 q5 hB hF
noncomputable def qhp : Code := ((Tryz.f106.body.bind (zJ 12)).getD .skip)
theorem qcr (wr : World) (a : Go.Act) (hsz : a.tmps.size = 102) (hd : a.defers = []) (Z k : Nat) (ws vs : List UInt32) (h2 : slot a 2 = .pointer (some ⟨Z, 0, none⟩)) (h4 : slot a 4 = .pointer (some ⟨Z + 1, 0, none⟩)) (h5 : slot a 5 = .pointer (some ⟨Z + 2, 0, none⟩)) (h89 : slot a 89 = .int .i64 (k : Int)) (hk : k < 8) (hB : WAt wr Z 211 ws) (hV : WAt wr (Z + 2) 211 vs) (hwl : ws.length = 8) (hvl : vs.length = 8) (Q : Exit -> Go.Act -> World -> Prop)
  (hq : ∀ (c : Go.Act) (w' : World), c.defers = [] -> c.tmps.size = 102 -> slot c 2 = .pointer (some ⟨Z, 0, none⟩) -> slot c 4 = .pointer (some ⟨Z + 1, 0, none⟩) -> slot c 5 = .pointer (some ⟨Z + 2, 0, none⟩) -> slot c 89 = .int .i64 ((k : Int) + 1) -> WAt w' Z 211 (ws.set k (ws.getD k 0 + vs.getD k 0)) -> Fr [Z] wr w' -> Q .normal c w') : Code.wp Tryz.prog qhp Q a wr := by
 have HQ := Hdq hq
 rw [xh a hsz hd, h2, h4, h5, h89]
 clear hq h2 h4 h5 h89 hsz hd
 conv => arg 2; whnf
 have hki : (k : Int) < 8 := by omega
 have HB := Hdq hB
 have HV := Hdq hV
 clear hB hV
 go_wp2
 refine qha wr _ rfl Z (Z + 2) k ws vs HB.out HV.out hwl hvl hk rfl rfl rfl _ ?_
 intro b p q1 q2 q3 hf hw
 have hb2 := Jd b _ [92, 93, 94, 95, 96, 97, 98, 99] q1 q2 q3
 simp only [List.foldl_cons, List.foldl_nil] at hb2
 have HB5 := Hdq hw
 have HF5 := Hdq hf
 clear q1 q2 q3 hf hw HB HV
 generalize slot b 92 = s92 at hb2
 generalize slot b 93 = s93 at hb2
 generalize slot b 94 = s94 at hb2
 generalize slot b 95 = s95 at hb2
 generalize slot b 96 = s96 at hb2
 generalize slot b 97 = s97 at hb2
 generalize slot b 98 = s98 at hb2
 generalize slot b 99 = s99 at hb2
 subst hb2
 simp only [Go.Act.put, List.setIfInBounds_toArray, List.set_cons_succ, List.set_cons_zero]
 go_wp2
 exact HQ.out _ _ rfl rfl rfl rfl rfl (by go_num) HB5.out HF5.out
theorem qeJ (wr : World) (a : Go.Act) (hsz : a.tmps.size = 102) (hd : a.defers = []) (Z : Nat) (h2 : slot a 2 = .pointer (some ⟨Z, 0, none⟩)) (h4 : slot a 4 = .pointer (some ⟨Z + 1, 0, none⟩)) (h5 : slot a 5 = .pointer (some ⟨Z + 2, 0, none⟩)) (h89 : slot a 89 = .int .i64 8)  (Q : Exit -> Go.Act -> World -> Prop)
  (hq : ∀ c : Go.Act, c.defers = [] -> c.tmps.size = 102 -> slot c 2 = .pointer (some ⟨Z, 0, none⟩) -> slot c 4 = .pointer (some ⟨Z + 1, 0, none⟩) -> slot c 5 = .pointer (some ⟨Z + 2, 0, none⟩) -> Q (.exit 2) c wr) : Code.wp Tryz.prog qhp Q a wr := by
 have HQ := Hdq hq
 rw [xh a hsz hd, h2, h4, h5, h89]
 clear hq h2 h4 h5 h89 hsz hd
 conv => arg 2; whnf
 go_wp2
 apply HQ.out <;> rfl
theorem qeh (w0 : World) (a : Go.Act) (hsz : a.tmps.size = 102) (hd : a.defers = []) (Z : Nat) (ws vs : List UInt32) (h2 : slot a 2 = .pointer (some ⟨Z, 0, none⟩)) (h4 : slot a 4 = .pointer (some ⟨Z + 1, 0, none⟩)) (h5 : slot a 5 = .pointer (some ⟨Z + 2, 0, none⟩)) (h89 : slot a 89 = .int .i64 0) (hwl : ws.length = 8) (hvl : vs.length = 8) (hB : WAt w0 Z 211 ws) (hV : WAt w0 (Z + 2) 211 vs) (Q : Exit -> Go.Act -> World -> Prop)
  (hq : ∀ (c : Go.Act) (w' : World), c.defers = [] -> c.tmps.size = 102 -> slot c 2 = .pointer (some ⟨Z, 0, none⟩) -> slot c 4 = .pointer (some ⟨Z + 1, 0, none⟩) -> slot c 5 = .pointer (some ⟨Z + 2, 0, none⟩) -> WAt w' Z 211 (Ql ws vs 8) -> Fr [Z] w0 w' -> Q (.exit 2) c w') : Code.wp Tryz.prog (Code.loop qhp) Q a w0 := by
 refine wp_loop (fun a w => a.tmps.size = 102 /\ a.defers = [] /\ slot a 2 = .pointer (some ⟨Z, 0, none⟩) /\ slot a 4 = .pointer (some ⟨Z + 1, 0, none⟩) /\ slot a 5 = .pointer (some ⟨Z + 2, 0, none⟩) /\ ∃ k : Nat, k <= 8 /\ slot a 89 = .int .i64 (k : Int) /\ WAt w Z 211 (Ql ws vs k) /\ Fr [Z] w0 w) (fun a _ => 8 - kN (slot a 89)) ⟨hsz, hd, h2, h4, h5, 0, by omega, h89, by rw [qbM]; exact hB, Fr.refl _ _⟩ ?_
 clear h2 h4 h5 h89 hsz hd hB
 rintro a wr ⟨hsz, hd, h2, h4, h5, k, hk, h89, hB, hF⟩
 by_cases hk8 : k < 8
 ·refine qcr wr a hsz hd Z k (Ql ws vs k) vs h2 h4 h5 h89 hk8 hB (hV.keep hF Y85) (qdv _ _ _ 8 hwl hvl hk) hvl _ ?_
  intro c w' kd ks q2 q4 q5 q89 hB' hF'
  rw [qga _ _ _ 8 hwl hvl hk8, show (Ql ws vs k).set k (ws.getD k 0 + vs.getD k 0) = Ql ws vs (k + 1) from ?_] at hB'
  ·refine ⟨⟨ks, kd, q2, q4, q5, k + 1, by omega, by rw [q89]; rfl, hB', hF.trans hF'⟩, ?_⟩
   rw [q89, h89]
   simp [kN]; omega
  ·exact qcP ws vs k 8 hwl hvl hk8
 ·obtain rfl : k = 8 := by omega
  refine qeJ wr a hsz hd Z h2 h4 h5 h89 _ ?_
  intro c kd ks q2 q4 q5
  exact hq c wr kd ks q2 q4 q5 hB hF
theorem YT (w0 : World) (s : St8) (bb bo cap : Nat) (xs : List UInt8) (hx : xs.length = 64) (hB : Bs (fun _ => False) w0 (.slice (some ⟨bb, bo, none⟩) 64 cap) xs) (hK : KAt 21 w0) (hG : 21 < w0.heap.size) :
  Calls Tryz.prog 106 #[.agg (wA s.l), .slice (some ⟨bb, bo, none⟩) 64 cap] w0 fun e w' => e = .returned (.agg (wA (ji s xs).l)) /\ Fr [] w0 w' := by
 obtain ⟨Z, hZ⟩ := exq (w0.heap.size)
 have hw3 : Fr [] w0 (((w0.alloc (.cells (wA s.l) 211)).alloc (.cells (List.replicate 8 (.int .u32 0)).toArray 211)).alloc (.cells (wA s.l) 211)) := ((Fr.alloc _ _).trans (Fr.alloc _ _)).trans (Fr.alloc _ _)
 have hB0 : WAt (((w0.alloc (.cells (wA s.l) 211)).alloc (.cells (List.replicate 8 (.int .u32 0)).toArray 211)).alloc (.cells (wA s.l) 211)) Z 211 s.l := ((At.new hZ.symm).al).al
 have hR0 : At (((w0.alloc (.cells (wA s.l) 211)).alloc (.cells (List.replicate 8 (.int .u32 0)).toArray 211)).alloc (.cells (wA s.l) 211)) (Z + 1) (.cells (List.replicate 8 (.int .u32 0)).toArray 211) := (At.new (by simp [hZ])).al
 have hW0 : WAt (((w0.alloc (.cells (wA s.l) 211)).alloc (.cells (List.replicate 8 (.int .u32 0)).toArray 211)).alloc (.cells (wA s.l) 211)) (Z + 2) 211 s.l := At.new (by simp [hZ])
 have HF0 := Hdq hw3
 have HB0 := Hdq hB0
 have HR0 := Hdq hR0
 have HW0 := Hdq hW0
 have HKK := Hdq hK
 have HBS := Hdq hB
 have HX := Hdq hx
 have HZ := Hdq hZ
 have HG := Hdq (show 21 ≠ Z by omega)
 have HL0 := Hdq (jQ (c := s.l.map js) (show At ((w0.alloc (.cells (wA s.l) 211)).alloc (.cells (List.replicate 8 (.int .u32 0)).toArray 211)) Z (.cells (wA s.l) 211) from (At.new hZ.symm).al))
 have HS8 := Hdq (show (Tryz.prog.info? 211).map (·.size) = some (s.l.map js).length by rw [show (s.l.map js).length = 8 from rfl]; kernel_rfl)
 have HS9 := Hdq (show (Tryz.prog.info? 211).map (·.size) = some (wA s.l).size by rw [show (wA s.l).size = 8 from rfl]; kernel_rfl)
 have HW2 := Hdq (show ((w0.alloc (.cells (wA s.l) 211)).alloc (.cells (List.replicate 8 (.int .u32 0)).toArray 211)).heap.size = Z + 2 by simp [hZ])
 clear hw3 hB0 hR0 hW0 hK hB hx hG
 go_enter Tryz.func106, Tryz.ntmps106
 go_wp2_with (first | (refine jX (.tmp 2) rfl rfl Z 0 (s.l.map js) rfl HL0.out Tryz.underlying211 rfl HS8.out ?_) | (refine zI (.tmp 5) (.tmp 13) rfl rfl (wA s.l) (congrArg (fun n => Value.pointer (some ⟨n, 0, none⟩)) HW2.out.symm) rfl HS9.out rfl (QK _) ?_) | (go_at_call 165; fail))
 clear HL0 HW2 HS8 HS9 hZ
 refine (KZ _ bb bo cap xs HX.out (HBS.out.keep HF0.out Y85)).mono ?_
 rintro e w1 ⟨rfl, hf⟩
 have HB1 := Hdq (HB0.out.keep0 hf)
 have HR1 := Hdq (HR0.out.keep0 hf)
 have HW1 := Hdq (HW0.out.keep0 hf)
 have HF1 := Hdq (HF0.out.trans hf)
 clear hf HB0 HR0 HW0 HF0 HBS HX
 obtain ⟨ws, hws⟩ := exq (qT xs 64)
 have HWS := Hdq hws
 have HWL := Hdq (show ws.length = 64 by rw [<- hws, jE])
 rw [hws]
 clear hws
 go_wp2
 refine qgj w1 _ rfl rfl Z ws s rfl rfl rfl rfl rfl HWL.out (HKK.out.keep HF1.out) HG.out HB1.out _ ?_
 intro c w2 kd ks q2 q4 q5 hB hf
 have HB2 := Hdq hB
 have HR2 := Hdq (HR1.out.keep hf Y85)
 have HW2 := Hdq (HW1.out.keep hf Y85)
 have HF2 := Hdq (show Fr [] w0 w2 from HF1.out.then hf fun y hy => .inr Y70)
 rw [xh c ks kd, q2, q4, q5]
 clear kd ks q2 q4 q5 hB hf HB1 HR1 HW1 HF1 HKK
 go_wp2
 refine qeh w2 _ rfl rfl Z (zY s ws 64).l s.l rfl rfl rfl rfl rfl rfl HB2.out HW2.out _ ?_
 intro c w3 kd ks q2 q4 q5 hB hf
 rw [qdq, show (zY s ws 64).add s = ji s xs by rw [ji, HWS.out]] at hB
 obtain ⟨S, hS⟩ := exq (ji s xs)
 rw [hS] at hB
 have HSS := Hdq hS
 have HL3 := Hdq (jQ (c := S.l.map js) (show At w3 Z (.cells (S.l.map js).toArray 211) from hB))
 have HS8 := Hdq (show (Tryz.prog.info? 211).map (·.size) = some (S.l.map js).length by rw [show (S.l.map js).length = 8 from rfl]; kernel_rfl)
 have HS9 := Hdq (show (Tryz.prog.info? 211).map (·.size) = some (wA S.l).size by rw [show (wA S.l).size = 8 from rfl]; kernel_rfl)
 have HR3 := Hdq (HR2.out.keep hf Y85)
 have HF3 := Hdq (show Fr [] w0 w3 from HF2.out.then hf fun y hy => .inr Y70)
 rw [xh c ks kd, q2, q4, q5]
 clear kd ks q2 q4 q5 hB hf HB2 HR2 HW2 HF2 hS HWS
 go_wp2_with (first | (refine jX (.tmp 2) rfl rfl Z 0 (S.l.map js) rfl HL3.out Tryz.underlying211 rfl HS8.out ?_) | (refine zM (.tmp 4) (.tmp 101) rfl rfl (wA S.l) rfl rfl HS9.out HR3.out rfl (QK _) ?_))
 intro p1 f1 a1 s1
 have HRES := Hdq (jQ (c := S.l.map js) a1)
 have HF4 := Hdq (show Fr [] w0 p1 from HF3.out.then f1 fun y hy => .inr Y70)
 clear f1 a1 s1 HL3 HR3 HF3
 go_wp2
 refine bodyPost_ret (uY (d := _) rfl _ _ (Z + 1) _ rfl HRES.out Tryz.underlying211 rfl HS8.out) rfl ?_
 exact ⟨by rw [HSS.out]; rfl, HF4.out⟩
def hC (s : St8) (rv : Value) (n : Int) : Array Value := (s.l.map js ++ [rv, .int .i64 n]).toArray
theorem Q9 (s : St8) (rv : Value) (n : Int) : (hC s rv n)[8]? = some rv := rfl
theorem qhQ (s : St8) (rv : Value) (n : Int) : (hC s rv n)[9]? = some (.int .i64 n) := rfl
theorem yR (s : St8) (rv : Value) (n : Int) : (hC s rv n).size = 10 := rfl
theorem Z8 (s : St8) (rv rv' : Value) (n : Int) : (hC s rv n).setIfInBounds 8 rv' = hC s rv' n := rfl
theorem qgo (s : St8) (rv : Value) (n n' : Int) : (hC s rv n).setIfInBounds 9 (.int .i64 n') = hC s rv n' := rfl
theorem qhV (s s' : St8) (rv : Value) (n : Int) : ((hC s rv n).toList.take 0 ++ (wA s'.l).toList ++ (hC s rv n).toList.drop (0 + (wA s'.l).size)).toArray = hC s' rv n := rfl
theorem Wn {w : World} {hb : Nat} {s : St8} {rv : Value} {n : Int} {t : TypeId} (h : At w hb (.cells (hC s rv n) t)) : w.rangeAt hb 0 (s.l.map js) := by
 have h1 := jQ (c := s.l.map js ++ [rv, .int .i64 n]) h
 have := qcH (n := 0) (A := []) (B := s.l.map js) (C := [rv, .int .i64 n]) h1 rfl
 exact this
def yr (base : Nat) (w : World) (hb : Nat) (m : List UInt8) : Prop := ∃ rv, At w hb (.cells (hC (Qq m) rv (m.length : Int)) 213) /\ qt 5 base w rv (qI m)
theorem XZ (a : Go.Act) (hs : a.tmps.size = 59) (hd : a.defers = []) : a = ⟨(slot a 0 :: slot a 1 :: slot a 2 :: slot a 3 :: slot a 4 :: slot a 5 :: slot a 6 :: slot a 7 :: slot a 8 :: slot a 9 :: slot a 10 :: slot a 11 :: slot a 12 :: slot a 13 :: slot a 14 :: slot a 15 :: slot a 16 :: slot a 17 :: slot a 18 :: slot a 19 :: slot a 20 :: slot a 21 :: slot a 22 :: slot a 23 :: slot a 24 :: slot a 25 :: slot a 26 :: slot a 27 :: slot a 28 :: slot a 29 :: slot a 30 :: slot a 31 :: slot a 32 :: slot a 33 :: slot a 34 :: slot a 35 :: slot a 36 :: slot a 37 :: slot a 38 :: slot a 39 :: slot a 40 :: slot a 41 :: slot a 42 :: slot a 43 :: slot a 44 :: slot a 45 :: slot a 46 :: slot a 47 :: slot a 48 :: slot a 49 :: slot a 50 :: slot a 51 :: slot a 52 :: slot a 53 :: slot a 54 :: slot a 55 :: slot a 56 :: slot a 57 :: slot a 58 :: []).toArray, []⟩ := Lp a 59 hs hd
noncomputable def qcK : Code := ((Tryz.f51.body.bind (qV 4)).getD .skip)
theorem UL (w : World) (a : Go.Act) (hsz : a.tmps.size = 59) (hb rb ro rn rc : Nat) (n : Int) (s0 : St8) (r : List UInt8) (hA : At w hb (.cells (hC s0 (.slice (some ⟨rb, ro, none⟩) rn rc) n) 213)) (hn : 64 <= rn) (hc : rn <= rc) (h64 : (r.take 64).length = 64) (hB : Bs (fun b => b = hb) w (.slice (some ⟨rb, ro, none⟩) 64 rc) (r.take 64)) (hK : KAt 21 w) (hG : 21 < w.heap.size) (hgb : 21 ≠ hb) (hsL : (Tryz.prog.info? 211).map (·.size) = some (s0.l.map js).length) (hs8 : (Tryz.prog.info? 211).map (·.size) = some (wA (ji s0 (r.take 64)).l).size) (h0 : slot a 0 = .pointer (some ⟨hb, 0, none⟩)) (Q : Exit -> Go.Act -> World -> Prop)
  (hQ : ∀ (b : Go.Act) (p : World), b.defers = a.defers -> b.tmps.size = 59 -> (∀ s, s ∉ ([29, 30, 31, 32, 33, 34, 35, 36, 37, 38, 39, 40, 41] : List Nat) -> slot b s = slot a s) -> Fr [hb] w p -> At p hb (.cells (hC (ji s0 (r.take 64)) (.slice (some ⟨rb, ro, none⟩) rn rc) n) 213) -> Q .normal b p) : Code.wp Tryz.prog qcK Q a w := by
 conv => arg 2; whnf
 refine uL Y55 Y55 [some 29, some 30, some 31, some 32, some 33, some 34, some 35, some 36, some 37, some 38, some 39, some 40, some 41, none] [10, 13] [.rd (.pointer (some ⟨hb, 0, none⟩)) 2, .rd (.pointer (some ⟨hb, 0, none⟩)) 2, .rd (.pointer (some ⟨hb, 0, none⟩)) 2, .rd (.pointer (some ⟨hb, 0, none⟩)) 2, .rd (.agg (wA s0.l)) 1, .rd (.pointer (some ⟨hb, 0, none⟩)) 2, .rd (.pointer (some ⟨hb, 0, none⟩)) 2, .rd (.pointer (some ⟨hb, 8, none⟩)) 2, .rd (.slice (some ⟨rb, ro, none⟩) rn rc) 1, .rd (.slice (some ⟨rb, ro, none⟩) 64 rc) 2, .st 0, .rd (.pointer (some ⟨hb, 0, none⟩)) 2, .rd (.pointer (some ⟨hb, 0, none⟩)) 2, .st 1] (fun cj => if cj = 0 then (.agg (wA (ji s0 (r.take 64)).l)) else undef) (fun s g p => Fr [hb] w p /\ (s <= 1 -> At p hb (.cells (hC s0 (.slice (some ⟨rb, ro, none⟩) rn rc) n) 213)) /\ (1 < s -> At p hb (.cells (hC (ji s0 (r.take 64)) (.slice (some ⟨rb, ro, none⟩) rn rc) n) 213))) Y55 Y72 (by rw [hsz]; rfl) Y55 Y55 Y86 ?_ ⟨?_, ?_, ?_, ?_, ?_, ?_, ?_, ?_, ?_, ?_, ?_, ?_, ?_, ?_, trivial⟩ ?_
 ·intro w1 hw1
  exact ⟨fun _ => undef, ⟨(hw1).weak, fun _ => hA.keep0 hw1, fun hk => absurd hk Y86⟩⟩
 ·refine ⟨⟨29, rfl⟩, .inl rfl, fun b p s g hs hlow hS h => ?_⟩
  have e0 := h.eo Y86 h0
  exact Y1
 ·refine ⟨⟨30, rfl⟩, .inl rfl, fun b p s g hs hlow hS h => ?_⟩
  have e0 := h.eo Y86 h0
  exact Y1
 ·refine ⟨⟨31, rfl⟩, .inl rfl, fun b p s g hs hlow hS h => ?_⟩
  have e0 := h.er 1 30 Y55 rfl rfl
  exact Y1
 ·refine ⟨⟨32, rfl⟩, .inl rfl, fun b p s g hs hlow hS h => ?_⟩
  have e0 := h.er 2 31 Y55 rfl rfl
  exact Y1
 ·refine ⟨⟨33, rfl⟩, .inr ⟨13, rfl, by kernel_rfl⟩, fun b p s g hs hlow hS h => ?_⟩
  have e0 := h.er 3 32 Y55 rfl rfl
  obtain ⟨hf, m0, m1⟩ := hS
  exact ⟨_, by rfl, .inl ⟨(zp rfl), qfV rfl e0 (Wn (m0 hs)) Tryz.underlying211 rfl hsL⟩⟩
 ·refine ⟨⟨34, rfl⟩, .inl rfl, fun b p s g hs hlow hS h => ?_⟩
  have e0 := h.eo Y86 h0
  exact Y1
 ·refine ⟨⟨35, rfl⟩, .inl rfl, fun b p s g hs hlow hS h => ?_⟩
  have e0 := h.er 5 34 Y55 rfl rfl
  exact Y1
 ·refine ⟨⟨36, rfl⟩, .inl rfl, fun b p s g hs hlow hS h => ?_⟩
  have e0 := h.er 6 35 Y55 rfl rfl
  exact Y1
 ·refine ⟨⟨37, rfl⟩, .inr ⟨13, rfl, by kernel_rfl⟩, fun b p s g hs hlow hS h => ?_⟩
  have e0 := h.er 7 36 Y55 rfl rfl
  obtain ⟨hf, m0, m1⟩ := hS
  have c0 := (show p.cell? ⟨hb, 8, none⟩ = some (.slice (some ⟨rb, ro, none⟩) rn rc) from ((m0 hs).cell 8).trans (Q9 _ _ _))
  exact Y5
 ·refine ⟨⟨38, rfl⟩, .inl rfl, fun b p s g hs hlow hS h => ?_⟩
  have e0 := h.er 8 37 Y55 rfl rfl
  refine gw0 rfl rfl ?_
  obtain ⟨ρ, hρ, ec⟩ := evx b
  rw [hρ] at e0 ⊢
  unfold execOp; simp [go_sem, e0, ec, show (64 : Int) <= rn by omega, show 64 <= rc by omega, show (64 : Int) <= rc by omega, show 64 <= rn by omega]
 ·refine ⟨rfl, .inl rfl, fun b p g hS h => ?_⟩
  have e0 := h.er 4 33 Y55 rfl rfl
  have e1 := h.er 9 38 Y55 rfl rfl
  obtain ⟨hf, m0, m1⟩ := hS
  refine yE _ Y72 (zp rfl) 106 _ _ rfl #[.agg (wA s0.l), .slice (some ⟨rb, ro, none⟩) 64 rc] (by simp only [List.map_toArray, List.map_cons, List.map_nil, e0, e1]) (by simp [go_sem]) ((YT p s0 rb ro rc (r.take 64) h64 (Bs.mono (hB.keep hf Y85) (Fr.refl [] p) Y85 (fun _ h => h.elim)) (fun i hi => ux hf (by simpa using hgb) (hK i hi)) (Nat.lt_of_lt_of_le hG hf.size)).mono ?_)
  exact Y17
 ·refine ⟨⟨40, rfl⟩, .inl rfl, fun b p s g hs hlow hS h => ?_⟩
  have e0 := h.er 0 29 Y55 rfl rfl
  exact Y1
 ·refine ⟨⟨41, rfl⟩, .inl rfl, fun b p s g hs hlow hS h => ?_⟩
  have e0 := h.er 11 40 Y55 rfl rfl
  exact Y1
 ·refine ⟨rfl, .inr ⟨10, rfl, by kernel_rfl⟩, fun b p g hS h => ?_⟩
  have e0 := h.er 12 41 Y55 rfl rfl
  have e1 := (show b.eval (.tmp 39) = .agg (wA (ji s0 (r.take 64)).l) from h.st 10 _ 39 Y55 rfl rfl)
  obtain ⟨hf, m0, m1⟩ := hS
  have hp := m0 Y86
  refine jZ (K := fun _ p => Fr [hb] w p /\ At p hb (.cells (hC (ji s0 (r.take 64)) (.slice (some ⟨rb, ro, none⟩) rn rc) n) 213)) (fun v p hv => ⟨⟨hv.1, fun hk => absurd hk Y86, fun _ => hv.2⟩, .inl rfl⟩) ?_
  refine jm (K := fun _ p => Fr [hb] w p /\ At p hb (.cells (hC (ji s0 (r.take 64)) (.slice (some ⟨rb, ro, none⟩) rn rc) n) 213)) _ Y72 ?_
  refine QZ (.tmp 41) (.tmp 39) rfl rfl (wA (ji s0 (r.take 64)).l) e0 e1 hs8 hp (by rw [yR]; show 0 + 8 <= 10; decide) (QK _) ?_
  intro p1 f1 a1 _
  exact ⟨rfl, rfl, hf.trans f1, by rw [qhV] at a1; exact a1⟩
 ·exact Y11
noncomputable def qgM : Code := ((Tryz.f51.body.bind (zJ 3)).getD .skip)
theorem qdj (wr : World) (a : Go.Act) (hsz : a.tmps.size = 59) (hd : a.defers = []) (hb rb ro rn rc : Nat) (n : Int) (s0 : St8) (r : List UInt8) (h0 : slot a 0 = .pointer (some ⟨hb, 0, none⟩)) (hA : At wr hb (.cells (hC s0 (.slice (some ⟨rb, ro, none⟩) rn rc) n) 213)) (hn : 64 <= rn) (hB : Bs (fun b => b = hb) wr (.slice (some ⟨rb, ro, none⟩) rn rc) r) (hK : KAt 21 wr) (hG : 21 < wr.heap.size) (hgb : 21 ≠ hb) (Q : Exit -> Go.Act -> World -> Prop)
  (hq : ∀ (c : Go.Act) (w' : World) (ra : Option Addr) (rc' : Nat), c.defers = [] -> c.tmps.size = 59 -> slot c 0 = .pointer (some ⟨hb, 0, none⟩) -> At w' hb (.cells (hC (ji s0 (r.take 64)) (.slice ra (rn - 64) rc') n) 213) -> Bs (fun b => b = hb) w' (.slice ra (rn - 64) rc') (r.drop 64) -> Fr [hb] wr w' -> Q .normal c w') : Code.wp Tryz.prog qgM Q a wr := by
 have HQ := Hdq hq
 rw [XZ a hsz hd, h0]
 clear hq h0 hsz hd
 conv => arg 2; whnf
 have hrl : rn = r.length := by
  obtain ⟨a', c', e, -⟩ := id hB
  cases e
  rfl
 have hrc : rn <= rc /\ rc <= maxLen := by
  obtain ⟨a', c', e, h1, h2, -⟩ := id hB
  cases e
  omega
 obtain ⟨hrc, hrm⟩ := hrc
 unfold maxLen at hrm
 have hBt := Bs.take hB 64 hn
 have hBc := Bs.cut hB 64 hn
 have h64 : (r.take 64).length = 64 := by rw [List.length_take]; omega
 obtain ⟨V2, hV2⟩ := exq ((if rc = 64 then (some ⟨rb, ro, none⟩ : Option Addr) else (some ⟨rb, ro, none⟩ : Option Addr).map (·.add 64)))
 rw [hV2] at hBc
 have HA := Hdq hA
 have HBT := Hdq hBt
 have HBC := Hdq hBc
 have HK := Hdq hK
 have H64 := Hdq h64
 have HV2 := Hdq hV2
 have c8 : wr.cell? ⟨hb, 8, none⟩ = some (.slice (some ⟨rb, ro, none⟩) rn rc) := (hA.cell 8).trans (Q9 _ _ _)
 have hki : (64 : Int) <= (rn : Int) := by omega
 have HSL := Hdq (show (Tryz.prog.info? 211).map (·.size) = some (s0.l.map js).length by rw [show (s0.l.map js).length = 8 from rfl]; kernel_rfl)
 have HS8 := Hdq (show (Tryz.prog.info? 211).map (·.size) = some (wA (ji s0 (r.take 64)).l).size by rw [show (wA (ji s0 (r.take 64)).l).size = 8 from rfl]; kernel_rfl)
 clear hA hBt hBc hK h64 hV2 hB hrl
 go_wp2
 refine UL wr _ rfl hb rb ro rn rc n s0 r HA.out hn hrc H64.out HBT.out HK.out hG hgb HSL.out HS8.out rfl _ ?_
 intro b p q1 q2 q3 hf hw
 have hb2 := Jd b _ [29, 30, 31, 32, 33, 34, 35, 36, 37, 38, 39, 40, 41] q1 q2 q3
 simp only [List.foldl_cons, List.foldl_nil] at hb2
 have HA5 := Hdq hw
 have HF5 := Hdq hf
 have c9 : p.cell? ⟨hb, 8, none⟩ = some (.slice (some ⟨rb, ro, none⟩) rn rc) := (hw.cell 8).trans (Q9 _ _ _)
 clear q1 q2 q3 hf hw HA c8
 generalize slot b 29 = s29 at hb2
 generalize slot b 30 = s30 at hb2
 generalize slot b 31 = s31 at hb2
 generalize slot b 32 = s32 at hb2
 generalize slot b 33 = s33 at hb2
 generalize slot b 34 = s34 at hb2
 generalize slot b 35 = s35 at hb2
 generalize slot b 36 = s36 at hb2
 generalize slot b 37 = s37 at hb2
 generalize slot b 38 = s38 at hb2
 generalize slot b 39 = s39 at hb2
 generalize slot b 40 = s40 at hb2
 generalize slot b 41 = s41 at hb2
 subst hb2
 simp only [Go.Act.put, List.setIfInBounds_toArray, List.set_cons_succ, List.set_cons_zero]
 by_cases h6 : rc = 64
 ·have HVV := Hdq (show V2 = some ⟨rb, ro, none⟩ by rw [<- HV2.out, if_pos h6])
  subst h6
  obtain rfl : rn = 64 := by omega
  go_wp2_with (refine qw (.tmp 49) (.tmp 47) rfl rfl (.slice (some ⟨rb, ro, none⟩) 0 0) rfl rfl HA5.out (show 8 < (hC _ _ _).size by rw [yR]; decide) Y55 rfl ?_)
  intro w6 f6 a6 _
  rw [Z8] at a6
  have HA6 := Hdq a6
  have HF6 := Hdq (HF5.out.trans f6)
  have HB6 := Hdq (show Bs (fun b => b = hb) w6 (.slice (some ⟨rb, ro, none⟩) 0 0) (r.drop 64) from by
   have h := HBC.out.keep HF6.out Y85
   rw [HVV.out] at h
   exact h)
  clear f6 a6 HA5 HF5 c9
  go_wp2
  exact HQ.out _ _ _ _ rfl rfl rfl HA6.out HB6.out HF6.out
 ·have HVV := Hdq (show V2 = some ⟨rb, ro + 64, none⟩ by rw [<- HV2.out, if_neg h6]; rfl)
  go_wp2_with (refine qw (.tmp 49) (.tmp 47) rfl rfl (.slice (some ⟨rb, ro + 64, none⟩) (rn - 64) (rc - 64)) rfl rfl HA5.out (show 8 < (hC _ _ _).size by rw [yR]; decide) Y55 rfl ?_)
  intro w6 f6 a6 _
  rw [Z8] at a6
  have HA6 := Hdq a6
  have HF6 := Hdq (HF5.out.trans f6)
  have HB6 := Hdq (show Bs (fun b => b = hb) w6 (.slice (some ⟨rb, ro + 64, none⟩) (rn - 64) (rc - 64)) (r.drop 64) from by
   have h := HBC.out.keep HF6.out Y85
   rw [HVV.out] at h
   exact h)
  clear f6 a6 HA5 HF5 c9
  go_wp2
  exact HQ.out _ _ _ _ rfl rfl rfl HA6.out HB6.out HF6.out
theorem qfm (wr : World) (a : Go.Act) (hsz : a.tmps.size = 59) (hd : a.defers = []) (hb rn rc : Nat) (ra : Option Addr) (n : Int) (s0 : St8) (h0 : slot a 0 = .pointer (some ⟨hb, 0, none⟩)) (hA : At wr hb (.cells (hC s0 (.slice ra rn rc) n) 213)) (hn : rn < 64) (Q : Exit -> Go.Act -> World -> Prop)
  (hq : ∀ c : Go.Act, c.defers = [] -> c.tmps.size = 59 -> slot c 0 = .pointer (some ⟨hb, 0, none⟩) -> Q (.exit 0) c wr) : Code.wp Tryz.prog qgM Q a wr := by
 have HQ := Hdq hq
 rw [XZ a hsz hd, h0]
 clear hq h0 hsz hd
 conv => arg 2; whnf
 have c8 : wr.cell? ⟨hb, 8, none⟩ = some (.slice ra rn rc) := (hA.cell 8).trans (Q9 _ _ _)
 have hki : ¬ (64 : Int) <= (rn : Int) := by omega
 clear hA
 go_wp2
 apply HQ.out <;> rfl
def qaU (w : World) (hb : Nat) : Nat := match w.cell? ⟨hb, 8, none⟩ with
 | some (.slice _ n _) => n
 | _ => 0
theorem qft (w0 : World) (a : Go.Act) (hsz : a.tmps.size = 59) (hd : a.defers = []) (hb : Nat) (rv : Value) (n : Int) (s0 : St8) (r : List UInt8) (h0 : slot a 0 = .pointer (some ⟨hb, 0, none⟩)) (hA : At w0 hb (.cells (hC s0 rv n) 213)) (hB : Bs (fun b => b = hb) w0 rv r) (hK : KAt 21 w0) (hG : 21 < w0.heap.size) (hgb : 21 ≠ hb) (Q : Exit -> Go.Act -> World -> Prop)
  (hq : ∀ (c : Go.Act) (w' : World) (rv' : Value), c.defers = [] -> c.tmps.size = 59 -> slot c 0 = .pointer (some ⟨hb, 0, none⟩) -> At w' hb (.cells (hC (jJ (r.length / 64) s0 r) rv' n) 213) -> Bs (fun b => b = hb) w' rv' (r.drop (64 * (r.length / 64))) -> Fr [hb] w0 w' -> Q (.exit 0) c w') : Code.wp Tryz.prog (Code.loop qgM) Q a w0 := by
 refine wp_loop (fun a w => a.tmps.size = 59 /\ a.defers = [] /\ slot a 0 = .pointer (some ⟨hb, 0, none⟩) /\ ∃ (j : Nat) (rv' : Value), 64 * j <= r.length /\ At w hb (.cells (hC (jJ j s0 r) rv' n) 213) /\ Bs (fun b => b = hb) w rv' (r.drop (64 * j)) /\ Fr [hb] w0 w) (fun _ w => qaU w hb) ⟨hsz, hd, h0, 0, rv, by omega, hA, by simpa using hB, Fr.refl _ _⟩ ?_
 clear h0 hsz hd hA hB
 rintro a wr ⟨hsz, hd, h0, j, rv', hj, hA, hB, hF⟩
 obtain ⟨ra, rc, e, -⟩ := id hB
 have hm : qaU wr hb = (r.drop (64 * j)).length := by
  unfold qaU
  rw [(hA.cell 8).trans (Q9 _ _ _), e]
 obtain ⟨rn, hrn⟩ := exq ((r.drop (64 * j)).length)
 rw [hrn] at e hm
 subst e
 have hrl : rn = r.length - 64 * j := by rw [<- hrn, List.length_drop]
 by_cases h64 : 64 <= rn
 ·obtain ⟨b', o', e, -⟩ : ∃ b o, ra = some ⟨b, o, none⟩ /\ True := by
   obtain ⟨a', c', e, -, -, hr⟩ := id hB
   cases e
   obtain ⟨b, o, e, -⟩ := hr.some_of (by rw [List.length_map, hrn]; omega)
   exact ⟨b, o, e, trivial⟩
  subst e
  refine qdj wr a hsz hd hb b' o' rn rc n (jJ j s0 r) (r.drop (64 * j)) h0 hA h64 hB (fun i hi => ux hF (by simpa using hgb) (hK i hi)) (Nat.lt_of_lt_of_le hG hF.size) hgb _ ?_
  intro c w' ra' rc' kd ks q0 hA' hB' hF'
  have e1 : ji (jJ j s0 r) ((r.drop (64 * j)).take 64) = jJ (j + 1) s0 r := by rw [xR j 1]; rfl
  rw [e1] at hA'
  rw [List.drop_drop, show 64 * j + 64 = 64 * (j + 1) by omega] at hB'
  refine ⟨⟨ks, kd, q0, j + 1, _, by omega, hA', hB', hF.trans hF'⟩, ?_⟩
  rw [hm]
  unfold qaU
  rw [(hA'.cell 8).trans (Q9 _ _ _)]
  show rn - 64 < rn
  omega
 ·refine qfm wr a hsz hd hb rn rc ra n (jJ j s0 r) h0 hA Y54 _ ?_
  intro c kd ks q0
  have hjj : j = r.length / 64 := by omega
  rw [<- hjj] at hq
  exact hq c wr _ kd ks q0 hA hB hF
theorem qfP (w0 : World) (base hb : Nat) (m xs : List UInt8) (bv : Value) (hH : yr base w0 hb m) (hB : Bs (fun b => base <= b) w0 bv xs) (hK : KAt 21 w0) (hG : 21 < base) (hbb : base <= hb) (hbs : base <= w0.heap.size) (hlen : m.length + xs.length <= 100000000) :
  Calls Tryz.prog 51 #[.pointer (some ⟨hb, 0, none⟩), bv] w0 fun e w' => e = .returned (.pointer (some ⟨hb, 0, none⟩)) /\ yr base w' hb (m ++ xs) /\ ∃ S, Fr S w0 w' /\ ∀ x ∈ S, base <= x := by
 obtain ⟨rv, hA, hO⟩ := hH
 obtain ⟨ba, bc, e, hb1, hb2, -⟩ := id hB
 subst e
 unfold maxLen at hb2
 obtain ⟨xn, hxn⟩ := exq (xs.length)
 obtain ⟨mn, hmn⟩ := exq (m.length)
 rw [hxn] at hB hb1 hlen ⊢
 rw [hmn] at hA hlen
 have HXN := Hdq hxn
 have HMN := Hdq hmn
 have HA := Hdq hA
 have HO := Hdq hO
 have HB := Hdq hB
 have HK := Hdq hK
 have HRL := Hdq (show (qI m).length <= 64 by rw [vo]; omega)
 have c9 : w0.cell? ⟨hb, 9, none⟩ = some (.int .i64 (mn : Int)) := (hA.cell 9).trans (qhQ _ _ _)
 clear hxn hmn hA hO hB hK
 go_enter Tryz.func51, Tryz.ntmps51
 go_wp2_with (refine qw (.tmp 13) (.tmp 11) rfl rfl (.int .i64 ((mn : Int) + (xn : Int))) rfl rfl HA.out (show 9 < (hC _ _ _).size by rw [yR]; decide) Y55 rfl ?_)
 intro w1 f1 a1 _
 rw [qgo] at a1
 have HA1 := Hdq a1
 have HF1 := Hdq f1
 have HO1 := Hdq (show qt 5 base w1 rv (qI m) from vZ HO.out f1 (fun g hg hm => ub HO.out HA.out Y86 (by simp at hm; rw [hg, hm])))
 have HB1 := Hdq (HB.out.keep f1 Y57)
 have hz1 : base <= w1.heap.size := by have := f1.size; omega
 have c8 : w1.cell? ⟨hb, 8, none⟩ = some rv := (a1.cell 8).trans (Q9 _ _ _)
 clear f1 a1 HA HO HB c9
 go_wp2_with (at_builtin; refine qd (ys := xs) Tryz.underlying22 Tryz.infoByte rfl (.tmp 18) (.tmp 19) rfl rfl rfl HO1.out (by first | exact HB1.out) (by have := HRL.out; have := HXN.out; omega) hz1 ?_)
 intro v2 w2 h5 h6
 obtain ⟨va, vc, hv2, -⟩ := h5.bs (A := fun _ => False) Y85
 subst hv2
 obtain ⟨vn, hvn⟩ := exq ((qI m ++ xs).length)
 rw [hvn] at h5 ⊢
 have HVN := Hdq hvn
 have HVL := Hdq (show vn <= 100000100 by have := HRL.out; have := HXN.out; rw [<- hvn, List.length_append]; omega)
 have HA2 := Hdq (HA1.out.grown h6 (ub HO1.out HA1.out Y86))
 have HO2 := Hdq h5
 have HS2 := Hdq (show ∃ S, Fr S w0 w2 /\ ∀ x ∈ S, base <= x from ⟨[hb] ++ rv.ownBlock.toList, (HF1.out.mono (fun x hx => .inl (by simp at hx; subst hx; simp))).trans ((Fr.grown (S := rv.ownBlock.toList) h6 fun k hk => by simp [hk]).mono fun x hx => .inl (List.mem_append_right _ hx)), fun x hx => by
  rcases List.mem_append.1 hx with h | h
  ·simp at h; omega
  ·exact HO1.out.blk h⟩)
 clear h5 h6 HA1 HO1 HB1 c8 HF1 hvn
 go_wp2_with (refine qw (.tmp 22) (.tmp 20) rfl rfl (.slice va vn vc) rfl rfl HA2.out (show 8 < (hC _ _ _).size by rw [yR]; decide) Y55 rfl ?_)
 intro w3 f3 a3 s3
 rw [Z8] at a3
 have hF3 : ∃ S, Fr S w0 w3 /\ ∀ x ∈ S, base <= x := by
  obtain ⟨S, h1, h2⟩ := HS2.out
  exact ⟨S ++ [hb], (h1.mono fun x hx => .inl (List.mem_append_left _ hx)).trans (f3.mono fun x hx => .inl (List.mem_append_right _ hx)), fun x hx => by
   rcases List.mem_append.1 hx with h | h
   ·exact h2 x h
   ·simp at h; omega⟩
 have hB3 : Bs (fun b => b = hb) w3 (.slice va vn vc) (qI m ++ xs) := by
  have h := vZ HO2.out f3 (fun g hg hm => ub HO2.out HA2.out Y86 (by simp at hm; rw [hg, hm]))
  obtain ⟨a', c', e, h1, h2, hr⟩ := qt.bs (A := fun _ => False) (e := 5) (base := base) h Y85
  refine ⟨a', c', e, h1, h2, ?_⟩
  rcases hr with h0 | ⟨q, o, cc, ee, fz, e2, -, hq, hc⟩
  ·exact .inl h0
  ·refine .inr ⟨q, o, cc, ee, fz, e2, ?_, hq, hc⟩
   rintro rfl
   obtain ⟨-, h3 | ⟨g', cap', cur, e3, hg', hh, -⟩⟩ := h
   ·obtain ⟨e3, e4⟩ := h3
    injection e with e5
    injection e3 with e6
    rw [<- e5, e6] at e2
    cases e2
   ·injection e with e5
    injection e3 with e6
    rw [<- e5, e6] at e2
    cases e2
    rw [a3] at hh
    cases hh
 have HB3 := Hdq hB3
 have HA3 := Hdq a3
 have HK3 := Hdq (show KAt 21 w3 from fun i hi => by
  obtain ⟨S, h1, h2⟩ := hF3
  exact ux h1 (fun hm => by have := h2 _ hm; omega) (HK.out i hi))
 have HG3 := Hdq (show 21 < w3.heap.size by
  obtain ⟨S, h1, h2⟩ := hF3
  have := h1.size
  omega)
 have HS3 := Hdq hF3
 clear f3 a3 s3 hF3 hB3 HA2 HO2 HS2
 go_wp2
 refine qft w3 _ rfl rfl hb (.slice va vn vc) ((mn : Int) + (xn : Int)) (Qq m) (qI m ++ xs) rfl HA3.out HB3.out HK3.out HG3.out Y54 _ ?_
 intro c w4 rv' kd ks q0 hA hB hf
 rw [<- ZL] at hA
 rw [<- VP] at hB
 obtain ⟨ra, rc, e, -⟩ := id hB
 subst e
 have hrl : (qI (m ++ xs)).length <= 64 := by rw [vo]; omega
 have HRL4 := Hdq hrl
 obtain ⟨rn, hrn⟩ := exq ((qI (m ++ xs)).length)
 rw [hrn] at hA hB
 have HA4 := Hdq hA
 have HB4 := Hdq hB
 have HS4 := Hdq (show ∃ S, Fr S w0 w4 /\ ∀ x ∈ S, base <= x by
  obtain ⟨S, h1, h2⟩ := HS3.out
  exact ⟨S ++ [hb], (h1.mono fun x hx => .inl (List.mem_append_left _ hx)).trans (hf.mono fun x hx => .inl (List.mem_append_right _ hx)), fun x hx => by
   rcases List.mem_append.1 hx with h | h
   ·exact h2 x h
   ·simp at h; omega⟩)
 have c8 : w4.cell? ⟨hb, 8, none⟩ = some (.slice ra rn rc) := (hA.cell 8).trans (Q9 _ _ _)
 rw [XZ c ks kd, q0]
 clear kd ks q0 hA hB hf HA3 HB3 HK3 HG3 HS3 hrl hrn
 go_wp2_with (go_at_call 107; fail)
 refine (clone_any _ w4 _ _ HB4.out (by have := HRL4.out; omega)).mono ?_
 rintro e w5 ⟨v5, rfl, h5, hf⟩
 obtain ⟨va5, vc5, hv5, -⟩ := h5.bs (A := fun _ => False) Y85
 subst hv5
 have HO5 := Hdq (h5.base (show base <= w4.heap.size by
  obtain ⟨S, h1, h2⟩ := HS4.out
  have := h1.size
  omega))
 have HA5 := Hdq (HA4.out.keep0 hf)
 have HS5 := Hdq (show ∃ S, Fr S w0 w5 /\ ∀ x ∈ S, base <= x by
  obtain ⟨S, h1, h2⟩ := HS4.out
  exact ⟨S, h1.trans hf.weak, h2⟩)
 clear h5 hf HA4 HB4 HS4 c8
 go_wp2_with (refine qw (.tmp 57) (.tmp 55) rfl rfl (.slice va5 (qI (m ++ xs)).length vc5) rfl rfl HA5.out (show 8 < (hC _ _ _).size by rw [yR]; decide) Y55 rfl ?_)
 intro w6 f6 a6 _
 rw [Z8] at a6
 have HH6 := Hdq (show yr base w6 hb (m ++ xs) from ⟨_, by rw [List.length_append, HXN.out, HMN.out]; exact_mod_cast a6, vZ HO5.out f6 (fun g hg hm => ub HO5.out HA5.out Y86 (by simp at hm; rw [hg, hm]))⟩)
 have HS6 := Hdq (show ∃ S, Fr S w0 w6 /\ ∀ x ∈ S, base <= x by
  obtain ⟨S, h1, h2⟩ := HS5.out
  exact ⟨S ++ [hb], (h1.mono fun x hx => .inl (List.mem_append_left _ hx)).trans (f6.mono fun x hx => .inl (List.mem_append_right _ hx)), fun x hx => by
   rcases List.mem_append.1 hx with h | h
   ·exact h2 x h
   ·simp at h; omega⟩)
 clear f6 a6 HO5 HA5 HS5
 go_wp2
 go_ret
 exact ⟨rfl, HH6.out, HS6.out⟩
end Go.Proofs.YtdloaifdpajcjaaGreatDoor
