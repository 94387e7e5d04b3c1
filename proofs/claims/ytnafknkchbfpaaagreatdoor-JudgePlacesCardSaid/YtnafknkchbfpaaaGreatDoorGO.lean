import Derived.Test.YtnafknkchbfpaaaGreatDoorGN1
set_option linter.unusedVariables false
set_option linter.unusedSimpArgs false
set_option maxRecDepth 1000000
set_option maxHeartbeats 8000000
namespace Go.Proofs.YtnafknkchbfpaaaGreatDoor
open Go.RowKit Go.Bl
theorem qeW (l : List UInt8) (q : Nat) (h : q + 4 <= l.length) : (l.drop q).take 4 = [l.getD q 0, l.getD (q + 1) 0, l.getD (q + 2) 0, l.getD (q + 3) 0] := by
 have e : ∀ i, i < l.length -> l.drop i = l.getD i 0 :: l.drop (i + 1) := fun i hi => by
  rw [List.getD_eq_getElem?_getD, List.getElem?_eq_getElem hi]
  exact List.drop_eq_getElem_cons hi
 rw [e q Y66, e (q + 1) Y66, e (q + 2) Y66, e (q + 3) Y66]
 rfl
theorem qc8 (X : List UInt8) (o t q : Nat) (hq : o + 4 * t = q) (ht : t < 16) (hl : q + 4 <= X.length) : ((X.getD q 0).toUInt32 <<< UInt32.ofNat 24 ||| (X.getD (q + 1) 0).toUInt32 <<< UInt32.ofNat 16 ||| (X.getD (q + 2) 0).toUInt32 <<< UInt32.ofNat 8 ||| (X.getD (q + 3) 0).toUInt32) = Z8 ((X.drop o).take 64) t := by
 rw [qb6, Z8, List.drop_take, List.take_take, Nat.min_eq_left Y66, List.drop_drop, hq, qeW X q hl]
noncomputable def qep : Code := ((Tryz.f31.body.bind (jj 15)).getD .skip)
theorem qai (wr : World) (a : Go.Act) (hsz : a.tmps.size = 305) (hd : a.defers = []) (Z bb en cap sb wb o : Nat) (t q : Nat) (ws : List UInt32) (xs : List UInt8) (h2 : slot a 2 = .pointer (some ⟨Z, 0, none⟩)) (h3 : slot a 3 = .slice (some ⟨bb, 0, none⟩) en cap) (h6 : slot a 6 = .pointer (some ⟨sb, 0, none⟩)) (h7 : slot a 7 = .int .i64 (o : Int)) (h8 : slot a 8 = .pointer (some ⟨wb, 0, none⟩)) (h9 : slot a 9 = .int .i64 (t : Int)) (hws : WAt wr wb 158 ws) (hxs : ∀ j, j < en -> wr.cell? ⟨bb, j, none⟩ = some (.int .u8 ((xs.getD j 0).toNat : Int))) (hwl : ws.length = 64) (ht : t < 16) (hoq : o + 4 * t = q) (hqn : q + 4 <= en) (hen : en <= 200000000) (Q : Exit -> Go.Act -> World -> Prop)
  (hq : ∀ (c : Go.Act) (w' : World), c.defers = [] -> c.tmps.size = 305 -> slot c 2 = .pointer (some ⟨Z, 0, none⟩) -> slot c 3 = .slice (some ⟨bb, 0, none⟩) en cap -> slot c 6 = .pointer (some ⟨sb, 0, none⟩) -> slot c 7 = .int .i64 (o : Int) -> slot c 8 = .pointer (some ⟨wb, 0, none⟩) -> slot c 9 = .int .i64 ((t : Int) + 1) -> WAt w' wb 158 (ws.set t ((xs.getD q 0).toUInt32 <<< UInt32.ofNat 24 ||| (xs.getD (q + 1) 0).toUInt32 <<< UInt32.ofNat 16 ||| (xs.getD (q + 2) 0).toUInt32 <<< UInt32.ofNat 8 ||| (xs.getD (q + 3) 0).toUInt32)) -> Fr [wb] wr w' -> Q .normal c w') : Code.wp Tryz.prog qep Q a wr := by
 have HQ := Hdq hq
 rw [qG a hsz hd, h2, h3, h6, h7, h8, h9]
 clear hq h2 h3 h6 h7 h8 h9 hsz hd
 conv => arg 2; whnf
 have hti : (t : Int) < 16 := by omega
 have HWS := Hdq hws
 have HXS := Hdq hxs
 have HOQ := Hdq hoq
 clear hws hxs hoq
 go_wp2
 refine qcZ wr _ rfl bb wb en cap o t q ws xs HWS.out HXS.out hwl ht HOQ.out hqn hen rfl rfl rfl rfl _ ?_
 intro b p q1 q2 q3 hf hw
 rw [qG b q2 q1, show slot b 2 = .pointer (some ⟨Z, 0, none⟩) from q3 2 qa, show slot b 3 = .slice (some ⟨bb, 0, none⟩) en cap from q3 3 qa, show slot b 6 = .pointer (some ⟨sb, 0, none⟩) from q3 6 qa, show slot b 7 = .int .i64 (o : Int) from q3 7 qa, show slot b 8 = .pointer (some ⟨wb, 0, none⟩) from q3 8 qa, show slot b 9 = .int .i64 (t : Int) from q3 9 qa]
 have HW := Hdq hw
 have HF := Hdq hf
 clear q1 q2 q3 hw hf HWS HXS
 go_wp2
 exact HQ.out _ _ rfl rfl rfl rfl rfl rfl rfl (by go_num) HW.out HF.out
theorem qaH (wr : World) (a : Go.Act) (hsz : a.tmps.size = 305) (hd : a.defers = []) (Z bb en cap sb wb o : Nat) (h2 : slot a 2 = .pointer (some ⟨Z, 0, none⟩)) (h3 : slot a 3 = .slice (some ⟨bb, 0, none⟩) en cap) (h6 : slot a 6 = .pointer (some ⟨sb, 0, none⟩)) (h7 : slot a 7 = .int .i64 (o : Int)) (h8 : slot a 8 = .pointer (some ⟨wb, 0, none⟩)) (h9 : slot a 9 = .int .i64 16)  (Q : Exit -> Go.Act -> World -> Prop)
  (hq : ∀ c : Go.Act, c.defers = [] -> c.tmps.size = 305 -> slot c 2 = .pointer (some ⟨Z, 0, none⟩) -> slot c 3 = .slice (some ⟨bb, 0, none⟩) en cap -> slot c 6 = .pointer (some ⟨sb, 0, none⟩) -> slot c 7 = .int .i64 (o : Int) -> slot c 8 = .pointer (some ⟨wb, 0, none⟩) -> Q (.exit 6) c wr) : Code.wp Tryz.prog qep Q a wr := by
 have HQ := Hdq hq
 rw [qG a hsz hd, h2, h3, h6, h7, h8, h9]
 clear hq h2 h3 h6 h7 h8 h9 hsz hd
 conv => arg 2; whnf
 exact Y46
theorem qcm (w0 : World) (a : Go.Act) (hsz : a.tmps.size = 305) (hd : a.defers = []) (Z bb en cap sb wb o : Nat) (xs : List UInt8) (h2 : slot a 2 = .pointer (some ⟨Z, 0, none⟩)) (h3 : slot a 3 = .slice (some ⟨bb, 0, none⟩) en cap) (h6 : slot a 6 = .pointer (some ⟨sb, 0, none⟩)) (h7 : slot a 7 = .int .i64 (o : Int)) (h8 : slot a 8 = .pointer (some ⟨wb, 0, none⟩)) (h9 : slot a 9 = .int .i64 0) (hxs : ∀ j, j < en -> w0.cell? ⟨bb, j, none⟩ = some (.int .u8 ((xs.getD j 0).toNat : Int))) (hxl : xs.length = en) (hon : o + 64 <= en) (hen : en <= 200000000) (hbw : bb ≠ wb) (hws : WAt w0 wb 158 (qw ((xs.drop o).take 64) 0)) (Q : Exit -> Go.Act -> World -> Prop)
  (hq : ∀ (c : Go.Act) (w' : World), c.defers = [] -> c.tmps.size = 305 -> slot c 2 = .pointer (some ⟨Z, 0, none⟩) -> slot c 3 = .slice (some ⟨bb, 0, none⟩) en cap -> slot c 6 = .pointer (some ⟨sb, 0, none⟩) -> slot c 7 = .int .i64 (o : Int) -> slot c 8 = .pointer (some ⟨wb, 0, none⟩) -> WAt w' wb 158 (qw ((xs.drop o).take 64) 16) -> Fr [wb] w0 w' -> Q (.exit 6) c w') : Code.wp Tryz.prog (Code.loop qep) Q a w0 := by
 refine wp_loop (fun a w => a.tmps.size = 305 /\ a.defers = [] /\ slot a 2 = .pointer (some ⟨Z, 0, none⟩) /\ slot a 3 = .slice (some ⟨bb, 0, none⟩) en cap /\ slot a 6 = .pointer (some ⟨sb, 0, none⟩) /\ slot a 7 = .int .i64 (o : Int) /\ slot a 8 = .pointer (some ⟨wb, 0, none⟩) /\ ∃ t : Nat, t <= 16 /\ slot a 9 = .int .i64 (t : Int) /\ WAt w wb 158 (qw ((xs.drop o).take 64) t) /\ Fr [wb] w0 w) (fun a _ => 16 - kN (slot a 9)) ⟨hsz, hd, h2, h3, h6, h7, h8, 0, by omega, h9, hws, Fr.refl _ _⟩ ?_
 clear h2 h3 h6 h7 h8 h9 hsz hd hws
 rintro a wr ⟨hsz, hd, h2, h3, h6, h7, h8, t, ht, h9, hws, hF⟩
 by_cases ht16 : t < 16
 ·refine qai wr a hsz hd Z bb en cap sb wb o t (o + 4 * t) (qw ((xs.drop o).take 64) t) xs h2 h3 h6 h7 h8 h9 hws (fun j hj => qs hF (by simpa using hbw) (hxs j hj)) (vx _ t Y66) ht16 rfl Y66 hen _ ?_
  intro c w' kd ks q2 q3 q6 q7 q8 q9 hw' hF'
  rw [qc8 xs o t (o + 4 * t) rfl ht16 Y66, Q6 _ t ht16] at hw'
  refine ⟨⟨ks, kd, q2, q3, q6, q7, q8, t + 1, by omega, by rw [q9]; rfl, hw', hF.trans hF'⟩, ?_⟩
  rw [q9, h9]
  simp [kN]; omega
 ·obtain rfl : t = 16 := by omega
  refine qaH wr a hsz hd Z bb en cap sb wb o h2 h3 h6 h7 h8 h9 _ ?_
  intro c kd ks q2 q3 q6 q7 q8
  exact hq c wr kd ks q2 q3 q6 q7 q8 hws hF
noncomputable def qdZ : Code := ((Tryz.f31.body.bind (jj 19)).getD .skip)
theorem qak (wr : World) (a : Go.Act) (hsz : a.tmps.size = 305) (hd : a.defers = []) (Z bb en cap sb wb o : Nat) (t : Nat) (ws : List UInt32) (h2 : slot a 2 = .pointer (some ⟨Z, 0, none⟩)) (h3 : slot a 3 = .slice (some ⟨bb, 0, none⟩) en cap) (h6 : slot a 6 = .pointer (some ⟨sb, 0, none⟩)) (h7 : slot a 7 = .int .i64 (o : Int)) (h8 : slot a 8 = .pointer (some ⟨wb, 0, none⟩)) (h10 : slot a 10 = .int .i64 (t : Int)) (hws : WAt wr wb 158 ws) (hwl : ws.length = 64) (h16 : 16 <= t) (h64 : t < 64) (Q : Exit -> Go.Act -> World -> Prop)
  (hq : ∀ (c : Go.Act) (w' : World), c.defers = [] -> c.tmps.size = 305 -> slot c 2 = .pointer (some ⟨Z, 0, none⟩) -> slot c 3 = .slice (some ⟨bb, 0, none⟩) en cap -> slot c 6 = .pointer (some ⟨sb, 0, none⟩) -> slot c 7 = .int .i64 (o : Int) -> slot c 8 = .pointer (some ⟨wb, 0, none⟩) -> slot c 10 = .int .i64 ((t : Int) + 1) -> WAt w' wb 158 (ws.set t (zP (ws.getD (t - 2) 0) 17 19 10 + ws.getD (t - 7) 0 + zP (ws.getD (t - 15) 0) 7 18 3 + ws.getD (t - 16) 0)) -> Fr [wb] wr w' -> Q .normal c w') : Code.wp Tryz.prog qdZ Q a wr := by
 have HQ := Hdq hq
 rw [qG a hsz hd, h2, h3, h6, h7, h8, h10]
 clear hq h2 h3 h6 h7 h8 h10 hsz hd
 conv => arg 2; whnf
 have hti : (t : Int) < 64 := by omega
 have HWS := Hdq hws
 clear hws
 go_wp2
 refine qey wr _ rfl wb t ws HWS.out hwl h16 h64 rfl rfl _ ?_
 intro b p q1 q2 q3 q11 q12 hf
 rw [qG b q2 q1, show slot b 2 = .pointer (some ⟨Z, 0, none⟩) from q3 2 qa, show slot b 3 = .slice (some ⟨bb, 0, none⟩) en cap from q3 3 qa, show slot b 6 = .pointer (some ⟨sb, 0, none⟩) from q3 6 qa, show slot b 7 = .int .i64 (o : Int) from q3 7 qa, show slot b 8 = .pointer (some ⟨wb, 0, none⟩) from q3 8 qa, show slot b 10 = .int .i64 (t : Int) from q3 10 qa, q11, q12]
 have HW1 := Hdq (HWS.out.keep0 hf)
 have HF1 := Hdq hf
 clear q1 q2 q3 q11 q12 hf HWS
 go_wp2
 refine qeo p _ rfl wb t ws HW1.out hwl h16 h64 rfl rfl rfl rfl _ ?_
 intro b p2 q1 q2 q3 hf hw
 rw [qG b q2 q1, show slot b 2 = .pointer (some ⟨Z, 0, none⟩) from q3 2 qa, show slot b 3 = .slice (some ⟨bb, 0, none⟩) en cap from q3 3 qa, show slot b 6 = .pointer (some ⟨sb, 0, none⟩) from q3 6 qa, show slot b 7 = .int .i64 (o : Int) from q3 7 qa, show slot b 8 = .pointer (some ⟨wb, 0, none⟩) from q3 8 qa, show slot b 10 = .int .i64 (t : Int) from q3 10 qa]
 have HW := Hdq (show WAt p2 wb 158 (ws.set t (zP (ws.getD (t - 2) 0) 17 19 10 + ws.getD (t - 7) 0 + zP (ws.getD (t - 15) 0) 7 18 3 + ws.getD (t - 16) 0)) from hw)
 have HF := Hdq ((show Fr [wb] wr p from HF1.out.weak).trans hf)
 clear q1 q2 q3 hw hf HW1 HF1
 go_wp2
 exact HQ.out _ _ rfl rfl rfl rfl rfl rfl rfl (by go_num) HW.out HF.out
theorem qbs (wr : World) (a : Go.Act) (hsz : a.tmps.size = 305) (hd : a.defers = []) (Z bb en cap sb wb o : Nat) (h2 : slot a 2 = .pointer (some ⟨Z, 0, none⟩)) (h3 : slot a 3 = .slice (some ⟨bb, 0, none⟩) en cap) (h6 : slot a 6 = .pointer (some ⟨sb, 0, none⟩)) (h7 : slot a 7 = .int .i64 (o : Int)) (h8 : slot a 8 = .pointer (some ⟨wb, 0, none⟩)) (h10 : slot a 10 = .int .i64 64)  (Q : Exit -> Go.Act -> World -> Prop)
  (hq : ∀ c : Go.Act, c.defers = [] -> c.tmps.size = 305 -> slot c 2 = .pointer (some ⟨Z, 0, none⟩) -> slot c 3 = .slice (some ⟨bb, 0, none⟩) en cap -> slot c 6 = .pointer (some ⟨sb, 0, none⟩) -> slot c 7 = .int .i64 (o : Int) -> slot c 8 = .pointer (some ⟨wb, 0, none⟩) -> Q (.exit 8) c wr) : Code.wp Tryz.prog qdZ Q a wr := by
 have HQ := Hdq hq
 rw [qG a hsz hd, h2, h3, h6, h7, h8, h10]
 clear hq h2 h3 h6 h7 h8 h10 hsz hd
 conv => arg 2; whnf
 exact Y46
theorem qbm (w0 : World) (a : Go.Act) (hsz : a.tmps.size = 305) (hd : a.defers = []) (Z bb en cap sb wb o : Nat) (X : List UInt8) (h2 : slot a 2 = .pointer (some ⟨Z, 0, none⟩)) (h3 : slot a 3 = .slice (some ⟨bb, 0, none⟩) en cap) (h6 : slot a 6 = .pointer (some ⟨sb, 0, none⟩)) (h7 : slot a 7 = .int .i64 (o : Int)) (h8 : slot a 8 = .pointer (some ⟨wb, 0, none⟩)) (h10 : slot a 10 = .int .i64 16) (hws : WAt w0 wb 158 (qw X 16)) (Q : Exit -> Go.Act -> World -> Prop)
  (hq : ∀ (c : Go.Act) (w' : World), c.defers = [] -> c.tmps.size = 305 -> slot c 2 = .pointer (some ⟨Z, 0, none⟩) -> slot c 3 = .slice (some ⟨bb, 0, none⟩) en cap -> slot c 6 = .pointer (some ⟨sb, 0, none⟩) -> slot c 7 = .int .i64 (o : Int) -> slot c 8 = .pointer (some ⟨wb, 0, none⟩) -> WAt w' wb 158 (qM X 64) -> Fr [wb] w0 w' -> Q (.exit 8) c w') : Code.wp Tryz.prog (Code.loop qdZ) Q a w0 := by
 refine wp_loop (fun a w => a.tmps.size = 305 /\ a.defers = [] /\ slot a 2 = .pointer (some ⟨Z, 0, none⟩) /\ slot a 3 = .slice (some ⟨bb, 0, none⟩) en cap /\ slot a 6 = .pointer (some ⟨sb, 0, none⟩) /\ slot a 7 = .int .i64 (o : Int) /\ slot a 8 = .pointer (some ⟨wb, 0, none⟩) /\ ∃ t : Nat, 16 <= t /\ t <= 64 /\ slot a 10 = .int .i64 (t : Int) /\ WAt w wb 158 (qw X t) /\ Fr [wb] w0 w) (fun a _ => 64 - kN (slot a 10)) ⟨hsz, hd, h2, h3, h6, h7, h8, 16, by omega, by omega, h10, hws, Fr.refl _ _⟩ ?_
 clear h2 h3 h6 h7 h8 h10 hsz hd hws
 rintro a wr ⟨hsz, hd, h2, h3, h6, h7, h8, t, ht, ht2, h10, hws, hF⟩
 by_cases ht64 : t < 64
 ·refine qak wr a hsz hd Z bb en cap sb wb o t (qw X t) h2 h3 h6 h7 h8 h10 hws (vx _ t Y66) ht ht64 _ ?_
  intro c w' kd ks q2 q3 q6 q7 q8 q10 hw' hF'
  rw [JM X t ht ht64] at hw'
  refine ⟨⟨ks, kd, q2, q3, q6, q7, q8, t + 1, by omega, by omega, by rw [q10]; rfl, hw', hF.trans hF'⟩, ?_⟩
  rw [q10, h10]
  simp [kN]; omega
 ·obtain rfl : t = 64 := by omega
  refine qbs wr a hsz hd Z bb en cap sb wb o h2 h3 h6 h7 h8 h10 _ ?_
  intro c kd ks q2 q3 q6 q7 q8
  rw [JE] at hws
  exact hq c wr kd ks q2 q3 q6 q7 q8 hws hF
theorem qfy (S : St8) (kk x : UInt32) : (qU S kk x).a = XR S kk x + ((qv S.a 2 ^^^ qv S.a 13 ^^^ qv S.a 22) + (S.a &&& S.b ^^^ S.a &&& S.c ^^^ S.b &&& S.c)) := rfl
theorem qfm (S : St8) (kk x : UInt32) : (qU S kk x).b = S.a := rfl
theorem qfq (S : St8) (kk x : UInt32) : (qU S kk x).c = S.b := rfl
theorem qfJ (S : St8) (kk x : UInt32) : (qU S kk x).d = S.c := rfl
theorem qfp (S : St8) (kk x : UInt32) : (qU S kk x).e = S.d + XR S kk x := rfl
theorem qfu (S : St8) (kk x : UInt32) : (qU S kk x).f = S.e := rfl
theorem qfG (S : St8) (kk x : UInt32) : (qU S kk x).g = S.f := rfl
theorem qfs (S : St8) (kk x : UInt32) : (qU S kk x).h = S.g := rfl
noncomputable def qd5 : Code := ((Tryz.f31.body.bind (jj 25)).getD .skip)
theorem La (wr : World) (a : Go.Act) (hsz : a.tmps.size = 305) (hd : a.defers = []) (Z bb en cap sb wb o : Nat) (t : Nat) (S : St8) (kk x : UInt32) (h2 : slot a 2 = .pointer (some ⟨Z, 0, none⟩)) (h3 : slot a 3 = .slice (some ⟨bb, 0, none⟩) en cap) (h6 : slot a 6 = .pointer (some ⟨sb, 0, none⟩)) (h7 : slot a 7 = .int .i64 (o : Int)) (h8 : slot a 8 = .pointer (some ⟨wb, 0, none⟩)) (h13 : slot a 13 = .int .u32 (wN (S.a))) (h14 : slot a 14 = .int .u32 (wN (S.b))) (h15 : slot a 15 = .int .u32 (wN (S.c))) (h16 : slot a 16 = .int .u32 (wN (S.d))) (h17 : slot a 17 = .int .u32 (wN (S.e))) (h18 : slot a 18 = .int .u32 (wN (S.f))) (h19 : slot a 19 = .int .u32 (wN (S.g))) (h20 : slot a 20 = .int .u32 (wN (S.h))) (h21 : slot a 21 = .int .i64 (t : Int)) (ht : t < 64) (cK : wr.cell? ⟨21, t, none⟩ = some (.int .u32 (wN kk))) (cX : wr.cell? ⟨wb, t, none⟩ = some (.int .u32 (wN x))) (Q : Exit -> Go.Act -> World -> Prop)
  (hq : ∀ (c : Go.Act) (w' : World), c.defers = [] -> c.tmps.size = 305 -> slot c 2 = .pointer (some ⟨Z, 0, none⟩) -> slot c 3 = .slice (some ⟨bb, 0, none⟩) en cap -> slot c 6 = .pointer (some ⟨sb, 0, none⟩) -> slot c 7 = .int .i64 (o : Int) -> slot c 8 = .pointer (some ⟨wb, 0, none⟩) -> slot c 13 = .int .u32 (wN ((qU S kk x).a)) -> slot c 14 = .int .u32 (wN ((qU S kk x).b)) -> slot c 15 = .int .u32 (wN ((qU S kk x).c)) -> slot c 16 = .int .u32 (wN ((qU S kk x).d)) -> slot c 17 = .int .u32 (wN ((qU S kk x).e)) -> slot c 18 = .int .u32 (wN ((qU S kk x).f)) -> slot c 19 = .int .u32 (wN ((qU S kk x).g)) -> slot c 20 = .int .u32 (wN ((qU S kk x).h)) -> slot c 21 = .int .i64 ((t : Int) + 1) -> Fr [] wr w' -> Q .normal c w') : Code.wp Tryz.prog qd5 Q a wr := by
 have HQ := Hdq hq
 rw [qG a hsz hd, h2, h3, h6, h7, h8, h13, h14, h15, h16, h17, h18, h19, h20, h21]
 clear hq h2 h3 h6 h7 h8 h13 h14 h15 h16 h17 h18 h19 h20 h21 hsz hd
 conv => arg 2; whnf
 have hti : (t : Int) < 64 := by omega
 have CK := Hdq cK
 have CX := Hdq cX
 clear cK cX
 go_wp2
 refine qfg wr _ rfl wb t S kk x ht CK.out CX.out rfl rfl rfl rfl rfl rfl _ ?_
 intro b p q1 q2 q3 q22 hf
 rw [qG b q2 q1, show slot b 2 = .pointer (some ⟨Z, 0, none⟩) from q3 2 qa, show slot b 3 = .slice (some ⟨bb, 0, none⟩) en cap from q3 3 qa, show slot b 6 = .pointer (some ⟨sb, 0, none⟩) from q3 6 qa, show slot b 7 = .int .i64 (o : Int) from q3 7 qa, show slot b 8 = .pointer (some ⟨wb, 0, none⟩) from q3 8 qa, show slot b 13 = .int .u32 (wN (S.a)) from q3 13 qa, show slot b 14 = .int .u32 (wN (S.b)) from q3 14 qa, show slot b 15 = .int .u32 (wN (S.c)) from q3 15 qa, show slot b 16 = .int .u32 (wN (S.d)) from q3 16 qa, show slot b 17 = .int .u32 (wN (S.e)) from q3 17 qa, show slot b 18 = .int .u32 (wN (S.f)) from q3 18 qa, show slot b 19 = .int .u32 (wN (S.g)) from q3 19 qa, show slot b 20 = .int .u32 (wN (S.h)) from q3 20 qa, show slot b 21 = .int .i64 (t : Int) from q3 21 qa, q22]
 have HF := Hdq hf
 clear q1 q2 q3 q22 hf CK CX
 obtain ⟨t1, ht1⟩ := exq (XR S kk x)
 rw [show S.h + (qv S.e 6 ^^^ qv S.e 11 ^^^ qv S.e 25) + (S.e &&& S.f ^^^ ~~~ S.e &&& S.g) + kk + x = t1 from ht1]
 have HT1 := Hdq ht1
 have r1 := Kl
 have r2 := w_xor
 have r4 := YA
 have r5 := w_add
 clear ht1
 go_wp2_with (go_at_call 81; fail)
 refine (yy S.a 2 qa qa _).mono ?_
 rintro e w' ⟨rfl, rfl⟩
 go_wp2_with (go_at_call 81; fail)
 refine (yy S.a 13 qa qa _).mono ?_
 rintro e w' ⟨rfl, rfl⟩
 go_wp2_with (go_at_call 81; fail)
 refine (yy S.a 22 qa qa _).mono ?_
 rintro e w' ⟨rfl, rfl⟩
 go_wp2
 exact HQ.out _ _ rfl rfl rfl rfl rfl rfl rfl (by rw [qfy, HT1.out]; rfl) (by rw [qfm]; rfl) (by rw [qfq]; rfl) (by rw [qfJ]; rfl) (by rw [qfp, HT1.out]; rfl) (by rw [qfu]; rfl) (by rw [qfG]; rfl) (by rw [qfs]; rfl) (by go_num) HF.out
theorem qaO (wr : World) (a : Go.Act) (hsz : a.tmps.size = 305) (hd : a.defers = []) (Z bb en cap sb wb o : Nat) (S : St8) (h2 : slot a 2 = .pointer (some ⟨Z, 0, none⟩)) (h3 : slot a 3 = .slice (some ⟨bb, 0, none⟩) en cap) (h6 : slot a 6 = .pointer (some ⟨sb, 0, none⟩)) (h7 : slot a 7 = .int .i64 (o : Int)) (h8 : slot a 8 = .pointer (some ⟨wb, 0, none⟩)) (h13 : slot a 13 = .int .u32 (wN (S.a))) (h14 : slot a 14 = .int .u32 (wN (S.b))) (h15 : slot a 15 = .int .u32 (wN (S.c))) (h16 : slot a 16 = .int .u32 (wN (S.d))) (h17 : slot a 17 = .int .u32 (wN (S.e))) (h18 : slot a 18 = .int .u32 (wN (S.f))) (h19 : slot a 19 = .int .u32 (wN (S.g))) (h20 : slot a 20 = .int .u32 (wN (S.h))) (h21 : slot a 21 = .int .i64 64)  (Q : Exit -> Go.Act -> World -> Prop)
  (hq : ∀ c : Go.Act, c.defers = [] -> c.tmps.size = 305 -> slot c 2 = .pointer (some ⟨Z, 0, none⟩) -> slot c 3 = .slice (some ⟨bb, 0, none⟩) en cap -> slot c 6 = .pointer (some ⟨sb, 0, none⟩) -> slot c 7 = .int .i64 (o : Int) -> slot c 8 = .pointer (some ⟨wb, 0, none⟩) -> slot c 13 = .int .u32 (wN (S.a)) -> slot c 14 = .int .u32 (wN (S.b)) -> slot c 15 = .int .u32 (wN (S.c)) -> slot c 16 = .int .u32 (wN (S.d)) -> slot c 17 = .int .u32 (wN (S.e)) -> slot c 18 = .int .u32 (wN (S.f)) -> slot c 19 = .int .u32 (wN (S.g)) -> slot c 20 = .int .u32 (wN (S.h)) -> Q (.exit 10) c wr) : Code.wp Tryz.prog qd5 Q a wr := by
 have HQ := Hdq hq
 rw [qG a hsz hd, h2, h3, h6, h7, h8, h13, h14, h15, h16, h17, h18, h19, h20, h21]
 clear hq h2 h3 h6 h7 h8 h13 h14 h15 h16 h17 h18 h19 h20 h21 hsz hd
 conv => arg 2; whnf
 exact Y46
theorem qbT (w0 : World) (a : Go.Act) (hsz : a.tmps.size = 305) (hd : a.defers = []) (Z bb en cap sb wb o : Nat) (ws : List UInt32) (s : St8) (h2 : slot a 2 = .pointer (some ⟨Z, 0, none⟩)) (h3 : slot a 3 = .slice (some ⟨bb, 0, none⟩) en cap) (h6 : slot a 6 = .pointer (some ⟨sb, 0, none⟩)) (h7 : slot a 7 = .int .i64 (o : Int)) (h8 : slot a 8 = .pointer (some ⟨wb, 0, none⟩)) (h13 : slot a 13 = .int .u32 (wN (s.a))) (h14 : slot a 14 = .int .u32 (wN (s.b))) (h15 : slot a 15 = .int .u32 (wN (s.c))) (h16 : slot a 16 = .int .u32 (wN (s.d))) (h17 : slot a 17 = .int .u32 (wN (s.e))) (h18 : slot a 18 = .int .u32 (wN (s.f))) (h19 : slot a 19 = .int .u32 (wN (s.g))) (h20 : slot a 20 = .int .u32 (wN (s.h))) (h21 : slot a 21 = .int .i64 0) (hws : WAt w0 wb 158 ws) (hwl : ws.length = 64) (hK : KAt 21 w0) (Q : Exit -> Go.Act -> World -> Prop)
  (hq : ∀ (c : Go.Act) (w' : World), c.defers = [] -> c.tmps.size = 305 -> slot c 2 = .pointer (some ⟨Z, 0, none⟩) -> slot c 3 = .slice (some ⟨bb, 0, none⟩) en cap -> slot c 6 = .pointer (some ⟨sb, 0, none⟩) -> slot c 7 = .int .i64 (o : Int) -> slot c 8 = .pointer (some ⟨wb, 0, none⟩) -> slot c 13 = .int .u32 (wN ((qx s ws 64).a)) -> slot c 14 = .int .u32 (wN ((qx s ws 64).b)) -> slot c 15 = .int .u32 (wN ((qx s ws 64).c)) -> slot c 16 = .int .u32 (wN ((qx s ws 64).d)) -> slot c 17 = .int .u32 (wN ((qx s ws 64).e)) -> slot c 18 = .int .u32 (wN ((qx s ws 64).f)) -> slot c 19 = .int .u32 (wN ((qx s ws 64).g)) -> slot c 20 = .int .u32 (wN ((qx s ws 64).h)) -> Fr [] w0 w' -> Q (.exit 10) c w') : Code.wp Tryz.prog (Code.loop qd5) Q a w0 := by
 refine wp_loop (fun a w => a.tmps.size = 305 /\ a.defers = [] /\ slot a 2 = .pointer (some ⟨Z, 0, none⟩) /\ slot a 3 = .slice (some ⟨bb, 0, none⟩) en cap /\ slot a 6 = .pointer (some ⟨sb, 0, none⟩) /\ slot a 7 = .int .i64 (o : Int) /\ slot a 8 = .pointer (some ⟨wb, 0, none⟩) /\ ∃ t : Nat, t <= 64 /\ slot a 21 = .int .i64 (t : Int) /\ slot a 13 = .int .u32 (wN ((qx s ws t).a)) /\ slot a 14 = .int .u32 (wN ((qx s ws t).b)) /\ slot a 15 = .int .u32 (wN ((qx s ws t).c)) /\ slot a 16 = .int .u32 (wN ((qx s ws t).d)) /\ slot a 17 = .int .u32 (wN ((qx s ws t).e)) /\ slot a 18 = .int .u32 (wN ((qx s ws t).f)) /\ slot a 19 = .int .u32 (wN ((qx s ws t).g)) /\ slot a 20 = .int .u32 (wN ((qx s ws t).h)) /\ Fr [] w0 w) (fun a _ => 64 - kN (slot a 21)) ⟨hsz, hd, h2, h3, h6, h7, h8, 0, by omega, h21, h13, h14, h15, h16, h17, h18, h19, h20, Fr.refl _ _⟩ ?_
 clear h2 h3 h6 h7 h8 h13 h14 h15 h16 h17 h18 h19 h20 h21 hsz hd
 rintro a wr ⟨hsz, hd, h2, h3, h6, h7, h8, t, ht, h21, h13, h14, h15, h16, h17, h18, h19, h20, hF⟩
 by_cases ht64 : t < 64
 ·refine La wr a hsz hd Z bb en cap sb wb o t (qx s ws t) (shaK.getD t 0) (ws.getD t 0) h2 h3 h6 h7 h8 h13 h14 h15 h16 h17 h18 h19 h20 h21 ht64 (qs hF qc (hK t ht64)) (qs hF qc (hws.cell Y66)) _ ?_
  intro c w' kd ks q2 q3 q6 q7 q8 q13 q14 q15 q16 q17 q18 q19 q20 q21 hF'
  refine ⟨⟨ks, kd, q2, q3, q6, q7, q8, t + 1, by omega, by rw [q21]; rfl, q13, q14, q15, q16, q17, q18, q19, q20, hF.trans hF'⟩, ?_⟩
  rw [q21, h21]
  simp [kN]; omega
 ·obtain rfl : t = 64 := by omega
  refine qaO wr a hsz hd Z bb en cap sb wb o (qx s ws 64) h2 h3 h6 h7 h8 h13 h14 h15 h16 h17 h18 h19 h20 h21 _ ?_
  intro c kd ks q2 q3 q6 q7 q8 q13 q14 q15 q16 q17 q18 q19 q20
  exact hq c wr kd ks q2 q3 q6 q7 q8 q13 q14 q15 q16 q17 q18 q19 q20 hF
theorem xB {w : World} {b i : Nat} {v : Value} (h : w.cell? ⟨b, i, none⟩ = some v) : b < w.heap.size := by
 unfold World.cell? at h
 rcases Nat.lt_or_ge b w.heap.size with hb | hb
 ·exact hb
 ·rw [Array.getElem?_eq_none hb] at h; simp at h
noncomputable def qez : Code := ((Tryz.f31.body.bind (jj 11)).getD .skip)
theorem LW (wr : World) (a : Go.Act) (hsz : a.tmps.size = 305) (hd : a.defers = []) (Z bb en cap sb o : Nat) (xs : List UInt8) (S : St8) (h2 : slot a 2 = .pointer (some ⟨Z, 0, none⟩)) (h3 : slot a 3 = .slice (some ⟨bb, 0, none⟩) en cap) (h6 : slot a 6 = .pointer (some ⟨sb, 0, none⟩)) (h7 : slot a 7 = .int .i64 (o : Int)) (hxs : ∀ j, j < en -> wr.cell? ⟨bb, j, none⟩ = some (.int .u8 ((xs.getD j 0).toNat : Int))) (hxl : xs.length = en) (hon : o + 64 <= en) (hen : en <= 200000000) (hB : WAt wr sb 157 S.l) (hK : KAt 21 wr) (hGs : 21 ≠ sb) (Q : Exit -> Go.Act -> World -> Prop)
  (hq : ∀ (c : Go.Act) (w' : World), c.defers = [] -> c.tmps.size = 305 -> slot c 2 = .pointer (some ⟨Z, 0, none⟩) -> slot c 3 = .slice (some ⟨bb, 0, none⟩) en cap -> slot c 6 = .pointer (some ⟨sb, 0, none⟩) -> slot c 7 = .int .i64 ((o : Int) + 64) -> WAt w' sb 157 (qY S ((xs.drop o).take 64)).l -> Fr [sb] wr w' -> Q .normal c w') : Code.wp Tryz.prog qez Q a wr := by
 have HQ := Hdq hq
 rw [qG a hsz hd, h2, h3, h6, h7]
 clear hq h2 h3 h6 h7 hsz hd
 conv => arg 2; whnf
 obtain ⟨wb, hwb⟩ := exq (wr.heap.size)
 have hoi : (o : Int) < (en : Int) := by omega
 have f0 : Fr [] wr (wr.alloc (.cells z64 158)) := Fr.alloc _ _
 have HX := Hdq (show ∀ j, j < en -> (wr.alloc (.cells z64 158)).cell? ⟨bb, j, none⟩ = some (.int .u8 ((xs.getD j 0).toNat : Int)) from fun j hj => qs f0 qc (hxs j hj))
 have HB := Hdq (show WAt (wr.alloc (.cells z64 158)) sb 157 S.l from WAt.keep0 hB f0)
 have HW := Hdq (show WAt (wr.alloc (.cells z64 158)) wb 158 (qw ((xs.drop o).take 64) 0) from At.new hwb.symm)
 have HK := Hdq (show KAt 21 (wr.alloc (.cells z64 158)) from hK.keep f0)
 have HF := Hdq (show Fr [sb] wr (wr.alloc (.cells z64 158)) from f0.weak)
 have hsl := At.lt hB
 have hbl : bb < wr.heap.size := xB (hxs 0 Y66)
 have hbw : bb ≠ wb := by omega
 have hsw : sb ≠ wb := by omega
 have hGW : 21 ≠ wb := by have := xB (hK 0 qa); omega
 have HWB := Hdq hwb
 have HXL := Hdq hxl
 have HS9 := Hdq (show (Tryz.prog.info? 158).map (·.size) = some z64.size by rw [qb1]; kernel_rfl)
 have HBL := Hdq (show Tryz.prog.built 158 (([] : List Value).zipIdx 0 |>.map fun x => (x.2, x.1)) = some (List.replicate 64 (Value.int .u32 0)).toArray by kernel_rfl)
 have HAL := Hdq (show z64.all (·.oneCell') = true from by kernel_rfl)
 clear f0 hxs hB hK hxl hsl hbl
 go_wp2_with (first | (refine JF (t := 158) (parts := #[]) rfl rfl [] (List.replicate 64 (.int .u32 0)) rfl HBL.out ?_; rw [show (List.replicate 64 (Value.int IntKind.u32 0)).toArray = z64 from rfl]) | (refine qT (.tmp 8) (.tmp 63) rfl rfl z64 (congrArg (fun n => Value.pointer (some ⟨n, 0, none⟩)) HWB.out.symm) rfl HS9.out rfl HAL.out ?_))
 refine qcm _ _ rfl rfl Z bb en cap sb wb o xs rfl rfl rfl rfl rfl rfl HX.out HXL.out hon hen hbw HW.out _ ?_
 intro c w1 kd ks q2 q3 q6 q7 q8 hw hf
 have HB1 := Hdq (HB.out.keep hf (by simpa using hsw))
 have HK1 := Hdq (show KAt 21 w1 from fun i hi => qs hf (by simpa using hGW) (HK.out i hi))
 have HW1 := Hdq hw
 have HF1 := Hdq (HF.out.then hf (fun y hy => .inr (by simp at hy; have := HWB.out; omega)))
 rw [qG c ks kd, q2, q3, q6, q7, q8]
 clear ks kd q2 q3 q6 q7 q8
 clear hw hf HX HB HW HK HF HXL HBL HAL HS9
 go_wp2
 refine qbm w1 _ rfl rfl Z bb en cap sb wb o ((xs.drop o).take 64) rfl rfl rfl rfl rfl rfl HW1.out _ ?_
 intro c w2 kd ks q2 q3 q6 q7 q8 hw hf
 have HB2 := Hdq (HB1.out.keep hf (by simpa using hsw))
 have HK2 := Hdq (show KAt 21 w2 from fun i hi => qs hf (by simpa using hGW) (HK1.out i hi))
 have HW2 := Hdq hw
 have HF2 := Hdq (HF1.out.then hf (fun y hy => .inr (by simp at hy; have := HWB.out; omega)))
 rw [qG c ks kd, q2, q3, q6, q7, q8]
 clear ks kd q2 q3 q6 q7 q8
 clear hw hf HB1 HW1 HK1 HF1
 go_wp2
 refine qeq w2 _ rfl sb S HB2.out rfl _ ?_
 intro b w3 q1 q2 q3 q13 q14 q15 q16 q17 q18 q19 q20 hf
 rw [qG b q2 q1, show slot b 2 = .pointer (some ⟨Z, 0, none⟩) from q3 2 qa, show slot b 3 = .slice (some ⟨bb, 0, none⟩) en cap from q3 3 qa, show slot b 6 = .pointer (some ⟨sb, 0, none⟩) from q3 6 qa, show slot b 7 = .int .i64 (o : Int) from q3 7 qa, show slot b 8 = .pointer (some ⟨wb, 0, none⟩) from q3 8 qa, q13, q14, q15, q16, q17, q18, q19, q20]
 have HB3 := Hdq (HB2.out.keep0 hf)
 have HW3 := Hdq (HW2.out.keep0 hf)
 have HK3 := Hdq (HK2.out.keep hf)
 have HF3 := Hdq (HF2.out.trans hf.weak)
 clear q1 q2 q3 q13 q14 q15 q16 q17 q18 q19 q20 hf HB2 HW2 HK2 HF2
 go_wp2
 refine qbT w3 _ rfl rfl Z bb en cap sb wb o (qM ((xs.drop o).take 64) 64) S rfl rfl rfl rfl rfl rfl rfl rfl rfl rfl rfl rfl rfl rfl HW3.out (jo _ 64) HK3.out _ ?_
 obtain ⟨R, hT⟩ := exq (qx S (qM ((xs.drop o).take 64) 64) 64)
 rw [hT]
 intro c w4 kd ks q2 q3 q6 q7 q8 q13 q14 q15 q16 q17 q18 q19 q20 hf
 have HB4 := Hdq (HB3.out.keep0 hf)
 have HF4 := Hdq (HF3.out.trans hf.weak)
 have HTT := Hdq (show R.add S = qY S ((xs.drop o).take 64) by rw [qY, hT])
 rw [qG c ks kd, q2, q3, q6, q7, q8, q13, q14, q15, q16, q17, q18, q19, q20]
 clear ks kd q2 q3 q6 q7 q8 q13 q14 q15 q16 q17 q18 q19 q20
 have c0 : w4.cell? ⟨sb, 0, none⟩ = some (.int .u32 (wN S.a)) := WAt.cell HB4.out (i := 0) (show 0 < 8 by decide)
 have c1 : w4.cell? ⟨sb, 1, none⟩ = some (.int .u32 (wN S.b)) := WAt.cell HB4.out (i := 1) (show 1 < 8 by decide)
 have c2 : w4.cell? ⟨sb, 2, none⟩ = some (.int .u32 (wN S.c)) := WAt.cell HB4.out (i := 2) (show 2 < 8 by decide)
 have c3 : w4.cell? ⟨sb, 3, none⟩ = some (.int .u32 (wN S.d)) := WAt.cell HB4.out (i := 3) (show 3 < 8 by decide)
 have r4 := YA
 have r5 := w_add
 clear hT hf HB3 HW3 HK3 HF3
 go_wp2_with (refine qh (.tmp 247) (.tmp 234) rfl rfl (.int .u32 (wN (S.a + R.a))) rfl rfl (show At _ sb (.cells (wA [S.a, S.b, S.c, S.d, S.e, S.f, S.g, S.h]) 157) from HB4.out) (show 0 < (wA [S.a, S.b, S.c, S.d, S.e, S.f, S.g, S.h]).size by rw [zL]; show 0 < 8; decide) qb rfl ?_)
 intro p0 f a1 _
 rw [vX] at a1
 have HB5 := Hdq (show WAt p0 sb 157 [S.a + R.a, S.b, S.c, S.d, S.e, S.f, S.g, S.h] from a1)
 have HF5 := Hdq (HF4.out.trans f)
 clear f a1 HB4 HF4 c0 c1 c2 c3
 go_wp2_with (refine qh (.tmp 248) (.tmp 238) rfl rfl (.int .u32 (wN (S.b + R.b))) rfl rfl (show At _ sb (.cells (wA [S.a + R.a, S.b, S.c, S.d, S.e, S.f, S.g, S.h]) 157) from HB5.out) (show 1 < (wA [S.a + R.a, S.b, S.c, S.d, S.e, S.f, S.g, S.h]).size by rw [zL]; show 1 < 8; decide) qb rfl ?_)
 intro p1 f a1 _
 rw [vX] at a1
 have HB6 := Hdq (show WAt p1 sb 157 [S.a + R.a, S.b + R.b, S.c, S.d, S.e, S.f, S.g, S.h] from a1)
 have HF6 := Hdq (HF5.out.trans f)
 clear f a1 HB5 HF5
 go_wp2_with (refine qh (.tmp 249) (.tmp 242) rfl rfl (.int .u32 (wN (S.c + R.c))) rfl rfl (show At _ sb (.cells (wA [S.a + R.a, S.b + R.b, S.c, S.d, S.e, S.f, S.g, S.h]) 157) from HB6.out) (show 2 < (wA [S.a + R.a, S.b + R.b, S.c, S.d, S.e, S.f, S.g, S.h]).size by rw [zL]; show 2 < 8; decide) qb rfl ?_)
 intro p2 f a1 _
 rw [vX] at a1
 have HB7 := Hdq (show WAt p2 sb 157 [S.a + R.a, S.b + R.b, S.c + R.c, S.d, S.e, S.f, S.g, S.h] from a1)
 have HF7 := Hdq (HF6.out.trans f)
 clear f a1 HB6 HF6
 go_wp2_with (refine qh (.tmp 250) (.tmp 246) rfl rfl (.int .u32 (wN (S.d + R.d))) rfl rfl (show At _ sb (.cells (wA [S.a + R.a, S.b + R.b, S.c + R.c, S.d, S.e, S.f, S.g, S.h]) 157) from HB7.out) (show 3 < (wA [S.a + R.a, S.b + R.b, S.c + R.c, S.d, S.e, S.f, S.g, S.h]).size by rw [zL]; show 3 < 8; decide) qb rfl ?_)
 intro p3 f a1 _
 rw [vX] at a1
 have HB8 := Hdq (show WAt p3 sb 157 [S.a + R.a, S.b + R.b, S.c + R.c, S.d + R.d, S.e, S.f, S.g, S.h] from a1)
 have HF8 := Hdq (HF7.out.trans f)
 clear f a1 HB7 HF7
 have c4 : p3.cell? ⟨sb, 4, none⟩ = some (.int .u32 (wN S.e)) := WAt.cell HB8.out (i := 4) (show 4 < 8 by decide)
 have c5 : p3.cell? ⟨sb, 5, none⟩ = some (.int .u32 (wN S.f)) := WAt.cell HB8.out (i := 5) (show 5 < 8 by decide)
 have c6 : p3.cell? ⟨sb, 6, none⟩ = some (.int .u32 (wN S.g)) := WAt.cell HB8.out (i := 6) (show 6 < 8 by decide)
 have c7 : p3.cell? ⟨sb, 7, none⟩ = some (.int .u32 (wN S.h)) := WAt.cell HB8.out (i := 7) (show 7 < 8 by decide)
 go_wp2_with (refine qh (.tmp 267) (.tmp 254) rfl rfl (.int .u32 (wN (S.e + R.e))) rfl rfl (show At _ sb (.cells (wA [S.a + R.a, S.b + R.b, S.c + R.c, S.d + R.d, S.e, S.f, S.g, S.h]) 157) from HB8.out) (show 4 < (wA [S.a + R.a, S.b + R.b, S.c + R.c, S.d + R.d, S.e, S.f, S.g, S.h]).size by rw [zL]; show 4 < 8; decide) qb rfl ?_)
 intro p4 f a1 _
 rw [vX] at a1
 have HB9 := Hdq (show WAt p4 sb 157 [S.a + R.a, S.b + R.b, S.c + R.c, S.d + R.d, S.e + R.e, S.f, S.g, S.h] from a1)
 have HF9 := Hdq (HF8.out.trans f)
 clear f a1 HB8 HF8 c4 c5 c6 c7
 go_wp2_with (refine qh (.tmp 268) (.tmp 258) rfl rfl (.int .u32 (wN (S.f + R.f))) rfl rfl (show At _ sb (.cells (wA [S.a + R.a, S.b + R.b, S.c + R.c, S.d + R.d, S.e + R.e, S.f, S.g, S.h]) 157) from HB9.out) (show 5 < (wA [S.a + R.a, S.b + R.b, S.c + R.c, S.d + R.d, S.e + R.e, S.f, S.g, S.h]).size by rw [zL]; show 5 < 8; decide) qb rfl ?_)
 intro p5 f a1 _
 rw [vX] at a1
 have HB10 := Hdq (show WAt p5 sb 157 [S.a + R.a, S.b + R.b, S.c + R.c, S.d + R.d, S.e + R.e, S.f + R.f, S.g, S.h] from a1)
 have HF10 := Hdq (HF9.out.trans f)
 clear f a1 HB9 HF9
 go_wp2_with (refine qh (.tmp 269) (.tmp 262) rfl rfl (.int .u32 (wN (S.g + R.g))) rfl rfl (show At _ sb (.cells (wA [S.a + R.a, S.b + R.b, S.c + R.c, S.d + R.d, S.e + R.e, S.f + R.f, S.g, S.h]) 157) from HB10.out) (show 6 < (wA [S.a + R.a, S.b + R.b, S.c + R.c, S.d + R.d, S.e + R.e, S.f + R.f, S.g, S.h]).size by rw [zL]; show 6 < 8; decide) qb rfl ?_)
 intro p6 f a1 _
 rw [vX] at a1
 have HB11 := Hdq (show WAt p6 sb 157 [S.a + R.a, S.b + R.b, S.c + R.c, S.d + R.d, S.e + R.e, S.f + R.f, S.g + R.g, S.h] from a1)
 have HF11 := Hdq (HF10.out.trans f)
 clear f a1 HB10 HF10
 go_wp2_with (refine qh (.tmp 270) (.tmp 266) rfl rfl (.int .u32 (wN (S.h + R.h))) rfl rfl (show At _ sb (.cells (wA [S.a + R.a, S.b + R.b, S.c + R.c, S.d + R.d, S.e + R.e, S.f + R.f, S.g + R.g, S.h]) 157) from HB11.out) (show 7 < (wA [S.a + R.a, S.b + R.b, S.c + R.c, S.d + R.d, S.e + R.e, S.f + R.f, S.g + R.g, S.h]).size by rw [zL]; show 7 < 8; decide) qb rfl ?_)
 intro p7 f a1 _
 rw [vX] at a1
 have HB12 := Hdq (show WAt p7 sb 157 [S.a + R.a, S.b + R.b, S.c + R.c, S.d + R.d, S.e + R.e, S.f + R.f, S.g + R.g, S.h + R.h] from a1)
 have HF12 := Hdq (HF11.out.trans f)
 clear f a1 HB11 HF11
 go_wp2
 refine HQ.out _ _ rfl rfl rfl rfl rfl (by go_num) ?_ HF12.out
 rw [<- HTT.out]
 have h := HB12.out
 rw [UInt32.add_comm S.a, UInt32.add_comm S.b, UInt32.add_comm S.c, UInt32.add_comm S.d, UInt32.add_comm S.e, UInt32.add_comm S.f, UInt32.add_comm S.g, UInt32.add_comm S.h] at h
 exact h
theorem qbq (wr : World) (a : Go.Act) (hsz : a.tmps.size = 305) (hd : a.defers = []) (Z bb en cap sb o : Nat) (h2 : slot a 2 = .pointer (some ⟨Z, 0, none⟩)) (h3 : slot a 3 = .slice (some ⟨bb, 0, none⟩) en cap) (h6 : slot a 6 = .pointer (some ⟨sb, 0, none⟩)) (h7 : slot a 7 = .int .i64 (o : Int)) (hon : o = en) (Q : Exit -> Go.Act -> World -> Prop)
  (hq : ∀ c : Go.Act, c.defers = [] -> c.tmps.size = 305 -> slot c 2 = .pointer (some ⟨Z, 0, none⟩) -> slot c 3 = .slice (some ⟨bb, 0, none⟩) en cap -> slot c 6 = .pointer (some ⟨sb, 0, none⟩) -> Q (.exit 4) c wr) : Code.wp Tryz.prog qez Q a wr := by
 have HQ := Hdq hq
 rw [qG a hsz hd, h2, h3, h6, h7]
 clear hq h2 h3 h6 h7 hsz hd
 conv => arg 2; whnf
 have hni : ¬ (o : Int) < (en : Int) := by omega
 exact Y46
theorem WZ (j : Nat) (s : St8) (X : List UInt8) : qY (jg j s X) ((X.drop (64 * j)).take 64) = jg (j + 1) s X := (vh j 1 s X).symm
theorem qbS (w0 : World) (a : Go.Act) (hsz : a.tmps.size = 305) (hd : a.defers = []) (Z bb en cap sb M : Nat) (xs : List UInt8) (s : St8) (h2 : slot a 2 = .pointer (some ⟨Z, 0, none⟩)) (h3 : slot a 3 = .slice (some ⟨bb, 0, none⟩) en cap) (h6 : slot a 6 = .pointer (some ⟨sb, 0, none⟩)) (h7 : slot a 7 = .int .i64 0) (hxs : ∀ j, j < en -> w0.cell? ⟨bb, j, none⟩ = some (.int .u8 ((xs.getD j 0).toNat : Int))) (hxl : xs.length = en) (hM : en = 64 * M) (hen : en <= 200000000) (hB : WAt w0 sb 157 s.l) (hK : KAt 21 w0) (hGs : 21 ≠ sb) (hbs : bb ≠ sb) (Q : Exit -> Go.Act -> World -> Prop)
  (hq : ∀ (c : Go.Act) (w' : World), c.defers = [] -> c.tmps.size = 305 -> slot c 2 = .pointer (some ⟨Z, 0, none⟩) -> slot c 3 = .slice (some ⟨bb, 0, none⟩) en cap -> slot c 6 = .pointer (some ⟨sb, 0, none⟩) -> WAt w' sb 157 (jg M s xs).l -> Fr [sb] w0 w' -> Q (.exit 4) c w') : Code.wp Tryz.prog (Code.loop qez) Q a w0 := by
 refine wp_loop (fun a w => a.tmps.size = 305 /\ a.defers = [] /\ slot a 2 = .pointer (some ⟨Z, 0, none⟩) /\ slot a 3 = .slice (some ⟨bb, 0, none⟩) en cap /\ slot a 6 = .pointer (some ⟨sb, 0, none⟩) /\ ∃ j : Nat, j <= M /\ slot a 7 = .int .i64 ((64 * j : Nat) : Int) /\ WAt w sb 157 (jg j s xs).l /\ Fr [sb] w0 w) (fun a _ => en - kN (slot a 7)) ⟨hsz, hd, h2, h3, h6, 0, by omega, h7, hB, Fr.refl _ _⟩ ?_
 clear h2 h3 h6 h7 hsz hd hB
 rintro a wr ⟨hsz, hd, h2, h3, h6, j, hj, h7, hB, hF⟩
 by_cases hjM : j < M
 ·refine LW wr a hsz hd Z bb en cap sb (64 * j) xs (jg j s xs) h2 h3 h6 h7 (fun i hi => qs hF (by simpa using hbs) (hxs i hi)) hxl Y66 hen hB (fun i hi => qs hF (by simpa using hGs) (hK i hi)) hGs _ ?_
  intro c w' kd ks q2 q3 q6 q7 hB' hF'
  rw [WZ] at hB'
  refine ⟨⟨ks, kd, q2, q3, q6, j + 1, by omega, by rw [q7]; congr 1, hB', hF.trans hF'⟩, ?_⟩
  rw [q7, h7]
  simp [kN]; omega
 ·obtain rfl : j = M := by omega
  refine qbq wr a hsz hd Z bb en cap sb (64 * j) h2 h3 h6 h7 hM.symm _ ?_
  intro c kd ks q2 q3 q6
  exact hq c wr kd ks q2 q3 q6 hB hF
end Go.Proofs.YtnafknkchbfpaaaGreatDoor
