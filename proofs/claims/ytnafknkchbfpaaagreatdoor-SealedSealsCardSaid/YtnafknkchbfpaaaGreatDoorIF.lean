import Derived.Test.YtnafknkchbfpaaaGreatDoorIE
import Derived.Test.YtnafknkchbfpaaaGreatDoorIA
set_option maxRecDepth 1000000
set_option maxHeartbeats 8000000
namespace Go.Proofs.YtnafknkchbfpaaaGreatDoor
open Go.RowKit Go.Bl
set_option linter.unusedVariables false
theorem qbD (a : Go.Act) (hs : a.tmps.size = 81) (hd : a.defers = []) : a = ⟨(qd a 0 :: qd a 1 :: qd a 2 :: qd a 3 :: qd a 4 :: qd a 5 :: qd a 6 :: qd a 7 :: qd a 8 :: qd a 9 :: qd a 10 :: qd a 11 :: qd a 12 :: qd a 13 :: qd a 14 :: qd a 15 :: qd a 16 :: qd a 17 :: qd a 18 :: qd a 19 :: qd a 20 :: qd a 21 :: qd a 22 :: qd a 23 :: qd a 24 :: qd a 25 :: qd a 26 :: qd a 27 :: qd a 28 :: qd a 29 :: qd a 30 :: qd a 31 :: qd a 32 :: qd a 33 :: qd a 34 :: qd a 35 :: qd a 36 :: qd a 37 :: qd a 38 :: qd a 39 :: qd a 40 :: qd a 41 :: qd a 42 :: qd a 43 :: qd a 44 :: qd a 45 :: qd a 46 :: qd a 47 :: qd a 48 :: qd a 49 :: qd a 50 :: qd a 51 :: qd a 52 :: qd a 53 :: qd a 54 :: qd a 55 :: qd a 56 :: qd a 57 :: qd a 58 :: qd a 59 :: qd a 60 :: qd a 61 :: qd a 62 :: qd a 63 :: qd a 64 :: qd a 65 :: qd a 66 :: qd a 67 :: qd a 68 :: qd a 69 :: qd a 70 :: qd a 71 :: qd a 72 :: qd a 73 :: qd a 74 :: qd a 75 :: qd a 76 :: qd a 77 :: qd a 78 :: qd a 79 :: qd a 80 :: []).toArray, []⟩ := j6 a 81 hs hd
noncomputable def qdb : Code := ((Tryz.f5.body.bind (qn 12)).getD .skip)
theorem qdS (w : World) (a : Go.Act) (hsz : a.tmps.size = 81) (Z sb fn fc jn jc : Nat) (fa ja : Option Addr) (rl fl : List UInt8) (V : Array Value) (h1 : qd a 1 = .pointer (some ⟨Z, 0, none⟩)) (h4 : qd a 4 = .pointer (some ⟨sb, 0, none⟩)) (h6 : qd a 6 = .slice ja jn jc) (hF : w.cell? ⟨Z, 2, none⟩ = some (.slice fa fn fc)) (hSL : At w sb (.cells V 60)) (hr1 : (V.toList.drop 1).take 32 = rl.map u8v) (hr2 : (V.toList.drop 33).take 32 = fl.map u8v) (hrl : rl.length = 32) (hhl : fl.length = 32) (hroot : (∀ p, Fr [] w p -> Calls Tryz.prog 30 #[.slice ja jn jc] p fun e w' => e = .returned (.agg (rl.map u8v).toArray) /\ Fr [] p w')) (hof : (∀ p, Fr [] w p -> Calls Tryz.prog 31 #[.slice fa fn fc] p fun e w' => e = .returned (.agg (fl.map u8v).toArray) /\ Fr [] p w')) (Q : Exit -> Go.Act -> World -> Prop)
  (hQ : ∀ (b : Go.Act) (p : World), b.defers = a.defers -> b.tmps.size = 81 -> (∀ s, s ∉ ([68, 69, 70, 71, 72, 73, 74, 75, 76, 77, 78, 79, 80, 2] : List Nat) -> qd b s = qd a s) -> qd b 2 = .bool true -> Fr [] w p -> Q .normal b p) : Code.wp Tryz.prog qdb Q a w := by
 conv => arg 2; whnf
 refine qU qf qf [some 68, some 69, some 70, some 71, some 72, some 73, some 74, some 75, some 76, some 77, some 78, some 79, some 80, some 2] [3, 10] [.rd (.pointer (some ⟨sb, 1, none⟩)) 2, .rd (.agg (rl.map u8v).toArray) 2, .rd (.slice ja jn jc) 2, .st 0, .rd (.bool true) 2, .rd (.bool true) 2, .rd (.pointer (some ⟨sb, 33, none⟩)) 2, .rd (.agg (fl.map u8v).toArray) 2, .rd (.pointer (some ⟨Z, 2, none⟩)) 2, .rd (.slice fa fn fc) 2, .st 1, .rd (.bool true) 2, .rd (.bool true) 2, .rd (.bool true) 2] (fun cj => if cj = 0 then (.agg (rl.map u8v).toArray) else if cj = 1 then (.agg (fl.map u8v).toArray) else undef) (fun s g p => Fr [] w p) qf qw xz qf qf qe ?_ ⟨?_, ?_, ?_, ?_, ?_, ?_, ?_, ?_, ?_, ?_, ?_, ?_, ?_, ?_, trivial⟩ ?_
 ·exact Y85
 ·refine ⟨⟨68, rfl⟩, .inl rfl, fun b p s g hs hlow hS h => ?_⟩
  have e0 := h.eo qe h4
  exact Y0
 ·refine ⟨⟨69, rfl⟩, .inl rfl, fun b p s g hs hlow hS h => ?_⟩
  have e0 := h.er 0 68 qf rfl rfl
  have hf := hS
  exact ⟨_, by rfl, .inl ⟨(qq rfl), ZG (.tmp 68) rfl sb 1 (rl.map u8v) e0 (uM (k := 32) (hSL.keep0 hf) hr1) Tryz.underlying58 rfl (by rw [List.length_map, hrl]; kernel_rfl)⟩⟩
 ·refine ⟨⟨70, rfl⟩, .inl rfl, fun b p s g hs hlow hS h => ?_⟩
  have e0 := h.eo qe h6
  exact Y0
 ·refine ⟨rfl, .inl rfl, fun b p g hS h => ?_⟩
  have e0 := h.er 2 70 qf rfl rfl
  have hf := hS
  refine qG _ qw (qq rfl) 30 _ _ rfl #[.slice ja jn jc] Y98 zC ((hroot p hf).mono ?_)
  exact Y43
 ·refine ⟨⟨72, rfl⟩, .inl rfl, fun b p s g hs hlow hS h => ?_⟩
  have e0 := h.er 1 69 qf rfl rfl
  have e1 := (show b.eval (.tmp 71) = .agg (rl.map u8v).toArray from h.st 3 _ 71 qf rfl rfl)
  have hf := hS
  exact ⟨_, by rfl, .inl ⟨(qq rfl), UA (.tmp 69) (.tmp 71) rfl Tryz.underlying57 Tryz.underlying5 qf qf rl rl e0 e1 hrl hrl true (beq_self_eq_true rl)⟩⟩
 ·refine ⟨⟨73, rfl⟩, .inl rfl, fun b p s g hs hlow hS h => ?_⟩
  have e0 := h.er 4 72 qf rfl rfl
  exact Y0
 ·refine ⟨⟨74, rfl⟩, .inl rfl, fun b p s g hs hlow hS h => ?_⟩
  have e0 := h.eo qe h4
  exact Y49
 ·refine ⟨⟨75, rfl⟩, .inl rfl, fun b p s g hs hlow hS h => ?_⟩
  have e0 := h.er 6 74 qf rfl rfl
  have hf := hS
  exact ⟨_, by rfl, .inl ⟨(um 5 true 73 rfl qw (by rw [h.size, hsz]; decide) (h.rd 5 _ _ 73 qf rfl rfl)), ZG (.tmp 74) rfl sb 33 (fl.map u8v) e0 (uM (k := 32) (hSL.keep0 hf) hr2) Tryz.underlying58 rfl (by rw [List.length_map, hhl]; kernel_rfl)⟩⟩
 ·refine ⟨⟨76, rfl⟩, .inl rfl, fun b p s g hs hlow hS h => ?_⟩
  have e0 := h.eo qe h1
  exact Y49
 ·refine ⟨⟨77, rfl⟩, .inl rfl, fun b p s g hs hlow hS h => ?_⟩
  have e0 := h.er 8 76 qf rfl rfl
  have hf := hS
  have c0 := (show p.cell? ⟨Z, 2, none⟩ = some (.slice fa fn fc) from qm hf qg hF)
  refine ⟨_, by rfl, .inl ⟨(um 5 true 73 rfl qw (by rw [h.size, hsz]; decide) (h.rd 5 _ _ 73 qf rfl rfl)), ?_⟩⟩
  obtain ⟨ρ, hρ, ec⟩ := evx b
  rw [hρ] at e0 ⊢
  unfold execOp; simp [go_sem, e0, ec, c0]
 ·refine ⟨rfl, .inr ⟨3, rfl, by kernel_rfl⟩, fun b p g hS h => ?_⟩
  have e0 := h.er 9 77 qf rfl rfl
  have hf := hS
  refine qG _ qw (um 5 true 73 rfl qw (by rw [h.size, hsz]; decide) (h.rd 5 _ _ 73 qf rfl rfl)) 31 _ _ rfl #[.slice fa fn fc] Y98 zC ((hof p hf).mono ?_)
  exact Y43
 ·refine ⟨⟨79, rfl⟩, .inl rfl, fun b p s g hs hlow hS h => ?_⟩
  have e0 := h.er 7 75 qf rfl rfl
  have e1 := (show b.eval (.tmp 78) = .agg (fl.map u8v).toArray from h.st 10 _ 78 qf rfl rfl)
  have hf := hS
  exact ⟨_, by rfl, .inl ⟨(um 5 true 73 rfl qw (by rw [h.size, hsz]; decide) (h.rd 5 _ _ 73 qf rfl rfl)), UA (.tmp 75) (.tmp 78) rfl Tryz.underlying57 Tryz.underlying5 qf qf fl fl e0 e1 hhl hhl true (beq_self_eq_true fl)⟩⟩
 ·refine ⟨⟨80, rfl⟩, .inl rfl, fun b p s g hs hlow hS h => ?_⟩
  have e0 := h.er 5 73 qf rfl rfl
  have e1 := h.er 11 79 qf rfl rfl
  refine gw0 rfl rfl ?_
  obtain ⟨ρ, hρ, ec⟩ := evx b
  rw [hρ] at e0 e1 ⊢
  unfold execOp; simp [go_sem, e0, e1, ec]
 ·refine ⟨⟨2, rfl⟩, .inl rfl, fun b p s g hs hlow hS h => ?_⟩
  have e0 := h.er 12 80 qf rfl rfl
  exact Y0
 ·intro b p h1 h2 h3 h4 h5
  obtain ⟨g, h4, h6⟩ := h4
  have r2 : qd b 2 = .bool true := h5 13 (.bool true) _ 2 rfl rfl
  exact hQ b p h1 (h2.trans hsz) (fun s hs => h3 s (fun hm => hs vd)) r2 h4
theorem XR (m : List UInt8) (n : Int) (xs : List UInt8) (s : Nat) : (vf m n xs s).length = (jd xs).length + s := by
 unfold vf
 simp only []
 rw [yk, ya]
theorem Vl (u : Value) (hu : u.oneCell' = true) (rl fl : List UInt8) (h1 : rl.length = 32) (h2 : fl.length = 32) (V : Array Value) (hV : (u :: (rl.map u8v ++ fl.map u8v)).toArray = V) :
  V.size = 65 /\ V[0]? = some u /\ (V.toList.drop 1).take 32 = rl.map u8v /\ (V.toList.drop 33).take 32 = fl.map u8v /\ V.all (fun v => v.oneCell') = true := by
 subst hV
 refine ⟨by simp [h1, h2], rfl, ?_, ?_, ?_⟩
 ·rw [List.toList_toArray, List.drop_succ_cons, List.drop_zero, List.take_append_of_le_length qcW, List.take_of_length_le qcW]
 ·rw [List.toList_toArray, List.drop_succ_cons, List.drop_append, List.drop_of_length_le qcW, List.length_map, h1, List.nil_append]
  exact List.take_of_length_le (by rw [List.length_drop, List.length_map, h2]; decide)
 ·refine Array.all_eq_true'.2 fun x hx => ?_
  rw [List.mem_toArray, List.mem_cons, List.mem_append] at hx
  rcases hx with rfl | hx | hx
  ·exact hu
  ·exact jN _ x hx
  ·exact jN _ x hx
theorem LN (E : Nat -> Addr) (B : Nat) (w0 : World) (mv fv : Value) (m f : List UInt8) (n : Int) (q : Par) (hE : za jB E B w0) (hS : SG w0) (hR : RG w0) (hM : Bs (fun _ => False) w0 mv m) (hF : Bs (fun _ => False) w0 fv f) (hl : vy m.length f.length q.size = false) (hk : zA q m n f = 0) :
  Calls Tryz.prog 5 #[Q9 mv n fv q] w0 fun e w' => e = .returned (.bool true) /\ Fr [] w0 w' := by
 obtain ⟨ma, mc, rfl, -, -, -⟩ := id hM
 obtain ⟨fa, fc, rfl, -, -, -⟩ := id hF
 obtain ⟨mn, hmn⟩ := exq (m.length)
 obtain ⟨fn, hfn⟩ := exq (f.length)
 have HFF := Hdq hF
 rw [hmn, hfn] at hl
 rw [hmn] at hM ⊢
 rw [hfn] at hF HFF ⊢
 unfold Q9
 obtain ⟨Z, hZ⟩ := exq (w0.heap.size)
 obtain ⟨w1, hw1⟩ := exq (w0.alloc (.cells #[.slice ma mn mc, .int .i64 n, .slice fa fn fc, .int .i64 q.size, .int .i64 q.sent, .int .i64 q.spots, .int .i64 q.per, .int .i64 q.pat, .int .i64 q.ret] 26))
 have F1 : Fr [] w0 w1 := by rw [<- hw1]; exact Fr.alloc _ _
 have HB := Hdq (show At w1 Z (.cells #[.slice ma mn mc, .int .i64 n, .slice fa fn fc, .int .i64 q.size, .int .i64 q.sent, .int .i64 q.spots, .int .i64 q.per, .int .i64 q.pat, .int .i64 q.ret] 26) by rw [<- hw1]; exact At.new hZ.symm)
 have HF := Hdq F1
 have HM := Hdq (fun wi (h : Fr [] w0 wi) => show Bs (fun b => wi.heap.size <= b) wi (.slice ma mn mc) m from jb (hM.keep h qg))
 have HFI := Hdq (fun wi (h : Fr [] w0 wi) => show Bs (fun _ => False) wi (.slice fa fn fc) f from hF.keep h qg)
 have HE := Hdq (fun wi (h : Fr [] w0 wi) => hE.keep0 h)
 have HS := Hdq (fun wi (h : Fr [] w0 wi) => hS.keep h)
 have HR := Hdq (fun wi (h : Fr [] w0 wi) => hR.keep h)
 have HMN := Hdq hmn
 have HFN := Hdq hfn
 have HL := Hdq hl
 have HFL := Hdq (show f.length <= 400 from by rw [hfn]; exact K6 hl)
 have HZE := Hdq (XG hk)
 clear hk
 clear hE hS hR hM hF F1 hmn hfn hl HFF
 go_enter Tryz.func5, Tryz.ntmps5
 go_wp2_with (go_at_call 9; fail)
 clear hw1
 refine (yT E B w1 (HE.out _ HF.out) (HS.out _ HF.out)).mono ?_
 rintro e w2 ⟨rfl, hf⟩
 replace HF := Hdq (HF.out.trans hf)
 replace HB := Hdq (HB.out.keep0 hf)
 clear hf hZ
 go_wp2_with (first | (refine qu (.tmp 1) rfl rfl Z 0 [.slice ma mn mc, .int .i64 n, .slice fa fn fc, .int .i64 q.size, .int .i64 q.sent, .int .i64 q.spots, .int .i64 q.per, .int .i64 q.pat, .int .i64 q.ret] rfl (qr HB.out) Tryz.underlying26 rfl qf ?_) | (go_at_call 10; fail))
 refine (yS w2 ma fa mn mc fn fc n q).mono ?_
 rintro e w3 ⟨rfl, hf⟩
 replace HF := Hdq (HF.out.trans hf)
 replace HB := Hdq (HB.out.keep0 hf)
 clear hf
 rw [HL.out]
 have c2 : w3.cell? ⟨Z, 2, none⟩ = some (.slice fa fn fc) := HB.out.cell 2
 go_wp2_with (go_at_call 25; fail)
 clear c2
 refine (ZT (fun _ => False) w3 (.slice fa fn fc) f (HFI.out _ HF.out) Ln).mono ?_
 rintro e w4 ⟨u, rfl, hm, hf⟩
 obtain ⟨ua, un, uc, rfl⟩ := qcF hm
 have HMK := Hdq hm
 have HIN := Hdq (hm.bs (A := fun _ => False) (fun _ h => h.elim))
 replace HF := Hdq (HF.out.trans hf)
 replace HB := Hdq (HB.out.keep0 hf)
 clear hm hf
 have c0 : w4.cell? ⟨Z, 0, none⟩ = some (.slice ma mn mc) := HB.out.cell 0
 have c1 : w4.cell? ⟨Z, 1, none⟩ = some (.int .i64 n) := HB.out.cell 1
 go_wp2_with (first | (refine qu (.tmp 21) rfl rfl Z 3 [.int .i64 q.size, .int .i64 q.sent, .int .i64 q.spots, .int .i64 q.per, .int .i64 q.pat, .int .i64 q.ret] rfl (yt HB.out rfl) Tryz.underlying24 rfl qf ?_) | (go_at_call 26; fail))
 clear c0 c1
 refine (YT E B w4 (.slice ma mn mc) (.slice ua un uc) m f n q (HE.out _ HF.out) (HS.out _ HF.out) (HM.out _ HF.out) HIN.out HZE.out.1 HZE.out.2.2 HZE.out.2.1).mono ?_
 rintro e w5 ⟨u5, us, rl, fl, rfl, hrd, hls, hrr, hff, hf⟩
 obtain ⟨va, vc, rfl, -, -⟩ := jI hrd
 obtain ⟨vn, hvn⟩ := exq (us.length)
 have hq := yu HZE.out.1
 have hbl := Ue (p := q) (xs := f) HZE.out.2.1 hq.1
 have hb2 := JM hq.1
 have hb3 := Xt hq.1
 have hq2 : 0 <= q.sent /\ q.sent <= 8 := hq.2
 have hul : us.length = (jd f).length + q.sent.toNat := by rw [<- List.length_map (·.2), hls, XR]
 have HVN := Hdq (show 1 <= us.length /\ us.length <= 1000 by omega)
 have HU8 := Hdq (show ∀ x ∈ us, x.2.length <= 16 from fun x hx => YN (m := m) (n := n) (s := q.sent.toNat) f x.2 (by rw [<- hls]; exact List.mem_map_of_mem hx))
 have HRL := Hdq (show rl.length = 32 by
  rw [hrr]
  exact Qy _ (fun d hd => by obtain ⟨x, -, rfl⟩ := List.mem_map.1 hd; rfl) (by rw [List.length_map]; exact HVN.out.1))
 have HFL2 := Hdq (show fl.length = 32 by rw [hff]; exact jM _)
 have HRR := Hdq hrr
 have HFF := Hdq hff
 have HLS := Hdq hls
 rw [hvn] at hrd ⊢
 have HRD := Hdq hrd
 obtain ⟨V, hV⟩ := exq (((.slice va vn vc : Value) :: (rl.map u8v ++ fl.map u8v)).toArray)
 have HVF := Hdq (Vl (.slice va vn vc) rfl rl fl HRL.out HFL2.out V hV)
 rw [hV]
 replace HF := Hdq (HF.out.trans hf)
 replace HB := Hdq (HB.out.keep0 hf)
 have HMK5 := Hdq (HMK.out.keep0 hf)
 clear hrd hls hrr hff hvn hq hbl hb2 hb3 hq2 hul hV
 obtain ⟨sb, hsb⟩ := exq (w5.heap.size)
 obtain ⟨w6, hw6⟩ := exq (w5.alloc (.cells Tryz.zeroCells60 60))
 have F6 : Fr [] w5 w6 := by rw [<- hw6]; exact Fr.alloc _ _
 have HK6 := Hdq (show At w6 sb (.cells Tryz.zeroCells60 60) by rw [<- hw6]; exact At.new hsb.symm)
 have HSB := Hdq hsb
 have HF56 := Hdq F6
 clear F6 hf HMK
 go_wp2_with (refine ql (.tmp 4) (.tmp 24) rfl rfl (V) rfl rfl (by rw [HVF.out.1]; kernel_rfl) HK6.out (by rw [HVF.out.1]; kernel_rfl) (HVF.out.2.2.2.2) ?_)
 clear hw6 hsb
 intro w7 f9 a9 s9
 have F57 := Hdq (HF56.out.then f9 (fun z hz => .inr (by have := HSB.out; simp at hz; subst hz; omega)))
 have HSL := Hdq a9
 replace HF := Hdq (HF.out.trans F57.out)
 replace HB := Hdq (HB.out.keep0 F57.out)
 have HMK7 := Hdq (HMK5.out.keep0 F57.out)
 have HRD7 := Hdq (HRD.out.keep F57.out qg)
 clear f9 a9 s9 HMK5 HRD HF56 HK6
 have c0 : w7.cell? ⟨Z, 0, none⟩ = some (.slice ma mn mc) := HB.out.cell 0
 have c1 : w7.cell? ⟨Z, 1, none⟩ = some (.int .i64 n) := HB.out.cell 1
 have c2 : w7.cell? ⟨Z, 2, none⟩ = some (.slice fa fn fc) := HB.out.cell 2
 go_wp2_with (first | (refine qu (.tmp 33) rfl rfl Z 3 [.int .i64 q.size, .int .i64 q.sent, .int .i64 q.spots, .int .i64 q.per, .int .i64 q.pat, .int .i64 q.ret] rfl (yt HB.out rfl) Tryz.underlying24 rfl qf ?_) | (go_at_call 27; fail))
 clear c0 c1 c2
 refine (Lx w7 (.slice ma mn mc) (.slice fa fn fc) m f n q (HM.out _ HF.out) (HFI.out _ HF.out) (HR.out _ HF.out) HZE.out.1 HZE.out.2.1 HZE.out.2.2).mono ?_
 rintro e w8 ⟨u8, ws, rfl, hrd, hls, hf⟩
 obtain ⟨ja, jc, rfl, -, -⟩ := jI hrd
 obtain ⟨jn, hjn⟩ := exq (ws.length)
 have HWL := Hdq (show us.map (·.2) = ws.map (·.2) from HLS.out.trans hls.symm)
 rw [hjn] at hrd ⊢
 have HWR := Hdq hrd
 replace HF := Hdq (HF.out.trans hf)
 replace HB := Hdq (HB.out.keep0 hf)
 have HSL8 := Hdq (HSL.out.keep0 hf)
 have HMK8 := Hdq (HMK7.out.keep0 hf)
 have HRD8 := Hdq (HRD7.out.keep hf qg)
 clear hrd hls hjn hf HMK7 HSL HRD7
 go_wp2_with (go_at_call 15; fail)
 refine (YG E B 0 _ w8 (HE.out _ HF.out) qe .nil).mono ?_
 rintro e w9 ⟨rfl, hf⟩
 have HF9 := Hdq (HF.out.trans hf)
 have HSL9 := Hdq (HSL8.out.keep0 hf)
 have HB9 := Hdq (HB.out.keep0 hf)
 have HMK9 := Hdq (HMK8.out.keep0 hf)
 have HRD9 := Hdq (HRD8.out.keep hf qg)
 have HWR9 := Hdq (HWR.out.keep hf qg)
 have s0 : w9.cell? ⟨sb, 0, none⟩ = some (.slice va vn vc) := (HSL9.out.cell 0).trans HVF.out.2.1
 clear hf HF HB HSL8 HMK8 HRD8 HWR
 go_wp2_with (go_at_call 28; fail)
 clear s0
 refine (JN w9 (.slice va vn vc) (.slice ja jn jc) us ws HRD9.out HWR9.out HWL.out (by have := HVN.out; omega)).mono ?_
 rintro e w10 ⟨rfl, hf⟩
 have HF10 := Hdq (HF9.out.trans hf)
 have c2 : w10.cell? ⟨Z, 2, none⟩ = some (.slice fa fn fc) := (HB9.out.keep0 hf).cell 2
 have HB10 := Hdq (HB9.out.keep0 hf)
 have HSL10 := Hdq (HSL9.out.keep0 hf)
 have HMK10 := Hdq (HMK9.out.keep0 hf)
 have HWR10 := Hdq (HWR9.out.keep hf qg)
 clear hf HF9 HB9 HSL9 HMK9 HRD9 HWR9
 go_wp2_with (go_at_call 29; fail)
 clear c2
 refine (UY (fun _ => False) w3.heap.size w10 (.slice ua un uc) (.slice fa fn fc) f HMK10.out (HFI.out _ HF10.out) Ln).mono ?_
 rintro e w11 ⟨rfl, hf⟩
 have HF11 := Hdq (HF10.out.trans hf)
 have HB11 := Hdq (HB10.out.keep0 hf)
 have HSL11 := Hdq (HSL10.out.keep0 hf)
 have HWR11 := Hdq (HWR10.out.keep hf qg)
 clear hf HSL10 HMK10 HF10 HB10 HWR10
 go_wp2
 refine qdS w11 _ rfl Z sb fn fc jn jc fa ja rl fl V rfl rfl rfl (HB11.out.cell 2) HSL11.out HVF.out.2.2.1 HVF.out.2.2.2.1 HRL.out HFL2.out (fun p hp => ?_) (fun p hp => ?_) _ ?_
 ·have hl : ws.map (fun x => zg x.2) = us.map (fun x => zg x.2) := by
   have h := congrArg (List.map zg) HWL.out
   rw [List.map_map, List.map_map] at h
   exact h.symm
  have hln : ws.length = us.length := by have h := congrArg List.length HWL.out; simpa using h.symm
  rw [HRR.out, <- hl]
  refine KT p (.slice ja jn jc) ws (HWR11.out.keep hp qg) (fun x hx => ?_) (by have := HVN.out; omega) (by have := HVN.out; omega) (HR.out _ (HF11.out.trans hp))
  have hm : x.2 ∈ us.map (·.2) := by rw [HWL.out]; exact List.mem_map_of_mem hx
  obtain ⟨y, hy, e⟩ := List.mem_map.1 hm
  have := HU8.out y hy
  rw [<- e]
  omega
 ·rw [HFF.out]
  have hR := HR.out _ (HF11.out.trans hp)
  exact vq p (.slice fa fn fc) f (jb (HFI.out _ (HF11.out.trans hp))) hR.f hR.k hR.g Ln
 ·intro b pw hd hs ho r2 hf
  rw [qbD b hs hd, r2]
  have HFE := Hdq (HF11.out.trans hf)
  clear hf ho
  go_wp2
  go_ret
  exact ⟨rfl, HFE.out⟩
end Go.Proofs.YtnafknkchbfpaaaGreatDoor
