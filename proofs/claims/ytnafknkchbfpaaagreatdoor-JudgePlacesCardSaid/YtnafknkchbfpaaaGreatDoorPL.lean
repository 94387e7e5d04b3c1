import Derived.Test.YtnafknkchbfpaaaGreatDoorPJ
set_option linter.unusedVariables false
set_option linter.unusedSimpArgs false
set_option maxRecDepth 1000000
set_option maxHeartbeats 8000000
namespace Go.Proofs.YtnafknkchbfpaaaGreatDoor
open Go.RowKit Go.Bl
theorem qdI (a : Go.Act) (hs : a.tmps.size = 69) (hd : a.defers = []) : a = ⟨(slot a 0 :: slot a 1 :: slot a 2 :: slot a 3 :: slot a 4 :: slot a 5 :: slot a 6 :: slot a 7 :: slot a 8 :: slot a 9 :: slot a 10 :: slot a 11 :: slot a 12 :: slot a 13 :: slot a 14 :: slot a 15 :: slot a 16 :: slot a 17 :: slot a 18 :: slot a 19 :: slot a 20 :: slot a 21 :: slot a 22 :: slot a 23 :: slot a 24 :: slot a 25 :: slot a 26 :: slot a 27 :: slot a 28 :: slot a 29 :: slot a 30 :: slot a 31 :: slot a 32 :: slot a 33 :: slot a 34 :: slot a 35 :: slot a 36 :: slot a 37 :: slot a 38 :: slot a 39 :: slot a 40 :: slot a 41 :: slot a 42 :: slot a 43 :: slot a 44 :: slot a 45 :: slot a 46 :: slot a 47 :: slot a 48 :: slot a 49 :: slot a 50 :: slot a 51 :: slot a 52 :: slot a 53 :: slot a 54 :: slot a 55 :: slot a 56 :: slot a 57 :: slot a 58 :: slot a 59 :: slot a 60 :: slot a 61 :: slot a 62 :: slot a 63 :: slot a 64 :: slot a 65 :: slot a 66 :: slot a 67 :: slot a 68 :: []).toArray, []⟩ := uO a 69 hs hd
noncomputable def qfF : Code := ((Tryz.f21.body.bind (qr 9)).getD .skip)
theorem ss9 (w : World) (a : Go.Act) (hsz : a.tmps.size = 69) (j D I R : Int) (mb ob : Nat) (h5 : w.cell? ⟨mb, 5, none⟩ = some (.pointer (some ⟨ob, 0, none⟩))) (h7 : w.cell? ⟨mb, 7, none⟩ = some (.int .i64 D)) (hI : IntKind.i64.wrap (D + j) = I) (hto : ∀ p, Fr [] w p -> Calls Tryz.prog 65 #[.pointer (some ⟨ob, 0, none⟩), .int .i64 I] p fun e w' => e = .returned (.tuple #[.int .i64 R, .nilIface]) /\ Fr [] p w') (h3 : slot a 3 = .int .i64 j) (h11 : slot a 11 = .pointer (some ⟨mb, 0, none⟩)) (Q : Exit -> Go.Act -> World -> Prop)
  (hQ : ∀ (b : Go.Act) (p : World), b.defers = a.defers -> b.tmps.size = 69 -> (∀ s, s ∉ ([50, 51, 52, 53, 54, 55, 56, 57, 58, 59, 60, 49, 61, 62, 14, 12] : List Nat) -> slot b s = slot a s) -> slot b 14 = .int .i64 R -> slot b 12 = .nilIface -> Fr [] w p -> Q .normal b p) : Code.wp Tryz.prog qfF Q a w := by
 conv => arg 2; whnf
 refine qV qb qb [some 50, some 51, some 52, some 53, some 54, some 55, some 56, some 57, some 58, some 59, some 60, some 49, some 61, some 62, some 14, some 12] [10] [.rd (.pointer (some ⟨mb, 0, none⟩)) 1, .rd (.pointer (some ⟨mb, 0, none⟩)) 1, .rd (.pointer (some ⟨mb, 5, none⟩)) 1, .rd (.pointer (some ⟨ob, 0, none⟩)) 1, .rd (.pointer (some ⟨mb, 0, none⟩)) 1, .rd (.pointer (some ⟨mb, 0, none⟩)) 1, .rd (.pointer (some ⟨mb, 7, none⟩)) 1, .rd (.int .i64 D) 1, .rd (.int .i64 j) 1, .rd (.int .i64 I) 1, .st 0, .rd (.tuple #[.int .i64 R, .nilIface]) 1, .rd (.int .i64 R) 1, .rd (.nilIface) 1, .rd (.int .i64 R) 1, .rd (.nilIface) 1] (fun cj => if cj = 0 then (.tuple #[.int .i64 R, .nilIface]) else undef) (fun s g p => Fr [] w p) qb Y72 Y94 qb qb qa ?_ ⟨?_, ?_, ?_, ?_, ?_, ?_, ?_, ?_, ?_, ?_, ?_, ?_, ?_, ?_, ?_, ?_, trivial⟩ ?_
 ·intro w1 hw1
  exact ⟨fun _ => undef, hw1⟩
 ·refine ⟨⟨50, rfl⟩, .inl rfl, fun b p s g hs hlow hS h => ?_⟩
  have e0 := h.eo qa h11
  exact Y0
 ·refine ⟨⟨51, rfl⟩, .inl rfl, fun b p s g hs hlow hS h => ?_⟩
  have e0 := h.er 0 50 qb rfl rfl
  exact Y0
 ·refine ⟨⟨52, rfl⟩, .inl rfl, fun b p s g hs hlow hS h => ?_⟩
  have e0 := h.er 1 51 qb rfl rfl
  exact Y0
 ·refine ⟨⟨53, rfl⟩, .inl rfl, fun b p s g hs hlow hS h => ?_⟩
  have e0 := h.er 2 52 qb rfl rfl
  have hf := hS
  have c0 := (show p.cell? ⟨mb, 5, none⟩ = some (.pointer (some ⟨ob, 0, none⟩)) from qs hf qc h5)
  exact Y2
 ·refine ⟨⟨54, rfl⟩, .inl rfl, fun b p s g hs hlow hS h => ?_⟩
  have e0 := h.eo qa h11
  exact Y0
 ·refine ⟨⟨55, rfl⟩, .inl rfl, fun b p s g hs hlow hS h => ?_⟩
  have e0 := h.er 4 54 qb rfl rfl
  exact Y0
 ·refine ⟨⟨56, rfl⟩, .inl rfl, fun b p s g hs hlow hS h => ?_⟩
  have e0 := h.er 5 55 qb rfl rfl
  exact Y0
 ·refine ⟨⟨57, rfl⟩, .inl rfl, fun b p s g hs hlow hS h => ?_⟩
  have e0 := h.er 6 56 qb rfl rfl
  have hf := hS
  have c0 := (show p.cell? ⟨mb, 7, none⟩ = some (.int .i64 D) from qs hf qc h7)
  exact Y2
 ·refine ⟨⟨58, rfl⟩, .inl rfl, fun b p s g hs hlow hS h => ?_⟩
  have e0 := h.eo qa h3
  exact Y0
 ·refine ⟨⟨59, rfl⟩, .inl rfl, fun b p s g hs hlow hS h => ?_⟩
  have e0 := h.er 7 57 qb rfl rfl
  have e1 := h.er 8 58 qb rfl rfl
  refine gw0 rfl rfl ?_
  obtain ⟨ρ, hρ, ec⟩ := evx b
  rw [hρ] at e0 e1 ⊢
  unfold execOp; simp [go_sem, e0, e1, ec, hI]
 ·refine ⟨rfl, .inl rfl, fun b p g hS h => ?_⟩
  have e0 := h.er 3 53 qb rfl rfl
  have e1 := h.er 9 59 qb rfl rfl
  have hf := hS
  refine qJ _ Y72 (ql rfl) 65 _ _ rfl #[.pointer (some ⟨ob, 0, none⟩), .int .i64 I] Y68 Y74 ((hto p hf).mono ?_)
  exact Y41
 ·refine ⟨⟨49, rfl⟩, .inl rfl, fun b p s g hs hlow hS h => ?_⟩
  have e0 := (show b.eval (.tmp 60) = .tuple #[.int .i64 R, .nilIface] from h.st 10 _ 60 qb rfl rfl)
  exact Y0
 ·refine ⟨⟨61, rfl⟩, .inl rfl, fun b p s g hs hlow hS h => ?_⟩
  have e0 := h.er 11 49 qb rfl rfl
  exact Y0
 ·refine ⟨⟨62, rfl⟩, .inl rfl, fun b p s g hs hlow hS h => ?_⟩
  have e0 := h.er 11 49 qb rfl rfl
  exact Y0
 ·refine ⟨⟨14, rfl⟩, .inl rfl, fun b p s g hs hlow hS h => ?_⟩
  have e0 := h.er 12 61 qb rfl rfl
  exact Y0
 ·refine ⟨⟨12, rfl⟩, .inl rfl, fun b p s g hs hlow hS h => ?_⟩
  have e0 := h.er 13 62 qb rfl rfl
  exact Y0
 ·intro b p h1 h2 h3 h4 h5
  obtain ⟨g, h4, h6⟩ := h4
  have r14 : slot b 14 = .int .i64 R := h5 14 (.int .i64 R) _ 14 rfl rfl
  have r12 : slot b 12 = .nilIface := h5 15 (.nilIface) _ 12 rfl rfl
  exact hQ b p h1 (h2.trans hsz) (fun s hs => h3 s (fun hm => hs WN)) r14 r12 h4
theorem sdSentinel_any (E : Nat -> Addr) (B : Nat) (w0 : World) (mv : Value) (m : List UInt8) (n j : Int) (p : Par) (hE : zJ all20 E B w0) (hS : SG w0) (hB : Bs (fun b => w0.heap.size <= b) w0 mv m) :
  Calls Tryz.prog 21 #[mv, .int .i64 n, .agg #[.int .i64 p.size, .int .i64 p.sent, .int .i64 p.spots, .int .i64 p.per, .int .i64 p.pat, .int .i64 p.ret], .int .i64 j] w0 fun e w' => (sdE p m n = 0 -> (0 <= j /\ j < p.sent) -> ∃ u, e = .returned (.tuple #[.int .i64 ((je (qp m qI n) (blk p.size + p.sent).toNat ((blk p.size).toNat + j.toNat) : Nat) : Int), u, .nilIface]) /\ qf 5 w0.heap.size w' u (vL (qp m zZ n) ((je (qp m qI n) (blk p.size + p.sent).toNat ((blk p.size).toNat + j.toNat) : Nat) : Int) (j6 (qp m jI n) j))) /\ (sdE p m n = 0 -> ¬ (0 <= j /\ j < p.sent) -> e = .returned (.tuple #[.int .i64 0, .slice none 0 0, j7 E 18])) /\ (sdE p m n ≠ 0 -> ∃ ev, e = .returned (.tuple #[.int .i64 0, .slice none 0 0, ev]) /\ xL E w' (sdE p m n) ev) /\ Fr [] w0 w' := by
 obtain ⟨ma, mc, rfl, -, -, -⟩ := id hB
 obtain ⟨mn, hmn⟩ := exq (m.length)
 rw [hmn] at hB ⊢
 have hN9 : sdE p m n = 0 -> (0 <= blk p.size /\ blk p.size <= 510) /\ 0 <= p.sent /\ p.sent <= 8 := fun h => by
  have hc : chk p = 0 := by
   by_cases hc : chk p = 0
   ·exact hc
   ·unfold sdE at h
    rw [if_pos hc] at h
    exact h
  have ho := JU hc
  exact ⟨blk_le ho.1, ho.2⟩
 obtain ⟨NN, hNN⟩ := exq ((blk p.size + p.sent).toNat)
 obtain ⟨DD, hDD⟩ := exq ((blk p.size).toNat)
 obtain ⟨jn, hjn⟩ := exq (j.toNat)
 rw [hNN, hDD, hjn]
 obtain ⟨Z, hZ⟩ := exq (w0.heap.size)
 have F1 : Fr [] w0 (w0.alloc (.cells #[.int .i64 p.size, .int .i64 p.sent, .int .i64 p.spots, .int .i64 p.per, .int .i64 p.pat, .int .i64 p.ret] 24)) := Fr.alloc _ _
 have HC := Hdq (qaM E B (w0.alloc (.cells #[.int .i64 p.size, .int .i64 p.sent, .int .i64 p.spots, .int .i64 p.per, .int .i64 p.pat, .int .i64 p.ret] 24)) (.slice ma mn mc) m n p (hE.keep0 F1) (hS.keep F1) (hB.mono (A' := fun b => (w0.alloc (.cells #[.int .i64 p.size, .int .i64 p.sent, .int .i64 p.spots, .int .i64 p.per, .int .i64 p.pat, .int .i64 p.ret] 24)).heap.size <= b) F1 qc (fun b hb => .inl Y96)))
 have HA := Hdq (show At (w0.alloc (.cells #[.int .i64 p.size, .int .i64 p.sent, .int .i64 p.spots, .int .i64 p.per, .int .i64 p.pat, .int .i64 p.ret] 24)) Z (.cells #[.int .i64 p.size, .int .i64 p.sent, .int .i64 p.spots, .int .i64 p.per, .int .i64 p.pat, .int .i64 p.ret] 24) from At.new hZ.symm)
 have HF := Hdq F1
 have HE := Hdq (fun wi (h : Fr [] w0 wi) => hE.keep0 h)
 have HS := Hdq (fun wi (h : Fr [] w0 wi) => hS.keep h)
 have HN9 := Hdq hN9
 have HZ := Hdq hZ
 have HNN := Hdq (And.intro hNN (And.intro hDD hjn))
 clear hmn hE hS hB F1 hN9 hNN hDD hjn
 go_enter Tryz.func21, Tryz.ntmps21
 go_wp2_with (go_at_call 64; fail)
 clear hZ
 refine HC.out.mono ?_
 rintro e w2 ⟨h1, h2, hf⟩
 replace HA := Hdq (HA.out.keep0 hf)
 have HF2 := Hdq (HF.out.trans hf)
 have cs : w2.cell? ⟨Z, 1, none⟩ = some (.int .i64 p.sent) := HA.out.cell 1
 by_cases hk : sdE p m n = 0
 ·obtain ⟨mb, rfl, hm⟩ := h1 hk
  have HK := Hdq hk
  have HM := Hdq hm
  have hn9 := HN9.out hk
  clear h1 h2 hk hm hf HC HF
  by_cases hj : 0 <= j /\ j < p.sent
  ·have HJ := Hdq hj
   have hj0 : ¬ j < 0 := by omega
   have hj1 : ¬ p.sent <= j := by omega
   obtain ⟨u0, u1, u2, u3, u4, ob, kb, okb, a1, a2, a3, a4, a5, a6⟩ := HM.out
   obtain ⟨ka, kc, rfl, -, -, -⟩ := id a6
   rw [QK] at a1 a6
   obtain ⟨hNN, hDD, hjn⟩ := HNN.out
   obtain rfl : j = (jn : Int) := by omega
   rw [hNN] at a1 a2
   rw [hDD] at a1
   have HNV := Hdq (show NN <= 1048576 /\ DD + jn < NN by omega)
   have hDJ : IntKind.i64.wrap ((DD : Int) + (jn : Int)) = ((DD + jn : Nat) : Int) := by rw [IntKind.wrap_i64]; omega
   have c2 : w2.cell? ⟨mb, 2, none⟩ = some (.slice ka 32 kc) := a1.cell 2
   have HH := Hdq (And.intro a1 (And.intro a2 (And.intro a3 (And.intro a6 hDJ))))
   have HMM := Hdq (show Ud w2 mb NN DD m n from by have h := HM.out; rw [hNN, hDD] at h; exact h)
   clear hj hn9 a1 a2 a3 a4 a5 a6 hNN hDD hDJ hjn HN9 HM HNN
   go_wp2_with (go_at_call 67; fail)
   clear cs c2
   refine (WQ E B w2 (.slice ka 32 kc) (qp m jI n) (jn : Int) (HE.out _ HF2.out) (yd HH.out.2.2.2.1) (by rw [QK]; decide) (HS.out _ HF2.out)).mono ?_
   rintro e w3 ⟨u, rfl, hu, -, hf⟩
   have hc0 : ve (jn : Int) = 0 := Ut (by have := HJ.out; have := HNV.out; omega)
   have hub := hu hc0
   obtain ⟨ua, un, uc, rfl⟩ := yx hub
   rw [hc0, UQ]
   have HU := Hdq (hub.bs (A := fun _ => False) (fun _ h => h.elim))
   have HF3 := Hdq (HF2.out.trans hf)
   have HM3 := Hdq (HMM.out.keep hf)
   have HA3 := Hdq (HH.out.1.keep0 hf)
   have HO3 := Hdq (And.intro (HH.out.2.1.keep hf) (HH.out.2.2.1.keep hf))
   clear hu hub hf hc0 HF2 HMM
   go_wp2
   refine ss9 w3 _ rfl (jn : Int) (DD : Int) ((DD + jn : Nat) : Int) ((je (qp m qI n) NN (DD + jn) : Nat) : Int) mb ob (HA3.out.cell 5) (HA3.out.cell 7) HH.out.2.2.2.2 (fun v hv => qdU v ob okb NN (DD + jn) (qp m qI n) (HO3.out.1.keep hv) (HO3.out.2.keep hv) (HS.out _ (HF3.out.trans hv)) HNV.out.1 HNV.out.2) rfl rfl _ ?_
   intro b v hd hs ho r14 r12 hf
   obtain ⟨R, hR⟩ := exq (je (qp m qI n) NN (DD + jn))
   have HRR := Hdq hR
   rw [hR] at r14
   rw [qdI b hs hd, r14, r12, show slot b 11 = .pointer (some ⟨mb, 0, none⟩) from ho 11 qa, show slot b 13 = .slice ua un uc from ho 13 qa]
   have HF4 := Hdq (HF3.out.trans hf)
   have HM4 := Hdq (HM3.out.keep hf)
   have HU4 := Hdq (HU.out.keep hf qc)
   clear hf ho hs hd r14 r12 hR
   go_wp2_with (go_at_call 68; fail)
   refine (LF v mb NN DD m n (.slice ua un uc) (j6 (qp m jI n) (jn : Int)) (R : Int) HM4.out HU4.out (HS.out _ HF4.out) (by rw [qcb]; decide)).mono ?_
   rintro e w5 ⟨z, rfl, hz, hf⟩
   have HZ5 := Hdq (hz.base (base' := w0.heap.size) HF4.out.size)
   have HF5 := Hdq (HF4.out.trans hf)
   clear hz hf
   go_wp2
   refine bodyPost_ret (results_tmp3 rfl _ _ _) rfl ?_
   exact ⟨fun _ _ => by rw [HRR.out]; exact ⟨_, rfl, HZ5.out⟩, fun _ h => absurd HJ.out h, fun h => absurd HK.out h, HF5.out⟩
  ·have HJ := Hdq hj
   have he := (HE.out _ HF2.out).cell 18 qa
   simp only [gOf, List.getD_eq_getElem?_getD, List.getElem?_cons_zero, List.getElem?_cons_succ, Option.getD_some] at he
   by_cases hj0 : j < 0
   ·exact Y30
   ·have hj1 : p.sent <= j := by omega
    exact Y30
 ·obtain ⟨ev, rfl, hv⟩ := h2 hk
  obtain ⟨t, a, rfl⟩ := hv.some_of hk
  have HV := Hdq hv
  have HK := Hdq hk
  clear h1 h2 hf hk hv HC HF cs
  go_wp2
  refine bodyPost_ret (results_tmp3 rfl _ _ _) rfl ?_
  exact ⟨fun h => absurd h HK.out, fun h => absurd h HK.out, fun _ => ⟨_, rfl, HV.out⟩, HF2.out⟩
end Go.Proofs.YtnafknkchbfpaaaGreatDoor
namespace Go.Bl
open Go.RowKit Go.Proofs Go.Proofs.YtnafknkchbfpaaaGreatDoor
abbrev vl (h : Hh) (p : Par) : PV := .a [iH h p.size, iH h p.sent, iH h p.spots, iH h p.per, iH h p.pat, iH h p.ret]
def qfn (p : Par) : List Value := [.int .i64 p.size, .int .i64 p.sent, .int .i64 p.spots, .int .i64 p.per, .int .i64 p.pat, .int .i64 p.ret]
theorem Vx {A : Nat -> Prop} {w : World} {p : Par} {u : Value} (h : qQ A w (.a [iP p.size, iP p.sent, iP p.spots, iP p.per, iP p.pat, iP p.ret]) u) : u = .agg #[.int .i64 p.size, .int .i64 p.sent, .int .i64 p.spots, .int .i64 p.per, .int .i64 p.pat, .int .i64 p.ret] :=
 qeB (xs := qfn p) h
theorem z6 (Z : Ad) (h : Hh) (hh : ∀ α g, h α g = g ()) (p : Par) (hc : chk p = 0) : qo Z 32 [.pv (vl h p)] (.tup [.pv (iH h (blk p.size + p.sent)), .pv (.v .nilIface)]) [.any] := by
 simp only [vl, iH, hh]
 refine vm (xs := [.a [iP p.size, iP p.sent, iP p.spots, iP p.per, iP p.pat, iP p.ret]]) (.tuple #[.int .i64 (blk p.size + p.sent), .nilIface]) Tryz.func32 rfl rfl (fun A w => .tup (.cons (.pv (.v rfl)) (.cons (.pv (.v rfl)) .nil))) fun A w us hA he hr => ?_
 cases hr with
 | cons h1 h2 =>
  cases h2
  rw [Vx h1]
  refine (J9 Z.e _ w p (ux he)).mono ?_
  rintro e w' ⟨n, ev, rfl, hev, h1, -, hf⟩
  rw [hc] at hev
  rw [hev.nil_iff, h1 hc]
  exact ⟨rfl, hf⟩
theorem VB (Z : Ad) (h : Hh) (hh : ∀ α g, h α g = g ()) (m : List UInt8) (n j : Int) (p : Par) (hs : sdE p m n = 0) (hj : 0 <= j /\ j < p.sent) :
  qo Z 21 [.pv (bH h m), .pv (iH h n), .pv (vl h p), .pv (iH h j)] (.tup [.pv (nH h (je (qp m qI n) (blk p.size + p.sent).toNat ((blk p.size).toNat + j.toNat))),
   .own 5 1 (h _ fun _ => (vL (qp m zZ n) ((je (qp m qI n) (blk p.size + p.sent).toNat ((blk p.size).toNat + j.toNat) : Nat) : Int) (j6 (qp m jI n) j)).map u8P), .pv (.v .nilIface)]) [.any, .any, .any, .any] := by
 simp only [bH, lH, nH, iH, vl, hh, nI]
 refine yL (xs := [bP m, iP n, .a [iP p.size, iP p.sent, iP p.spots, iP p.per, iP p.pat, iP p.ret], iP j]) Tryz.func21 rfl rfl fun A w us hA he hr => ?_
 cases hr with
 | cons h1 hr =>
 cases hr with
 | cons h2 hr =>
 cases hr with
 | cons h3 hr =>
 cases hr with
 | cons h4 hr =>
  cases hr
  rw [vB h2, Vx h3, vB h4]
  refine (sdSentinel_any Z.e _ w _ m n j p (ux he) (VM he) (uf h1)).mono ?_
  rintro e w' ⟨g1, -, -, hf⟩
  obtain ⟨u, rfl, ho⟩ := g1 hs hj
  have hv : ∀ b ∈ u.ownBlock.toList, w.heap.size <= b /\ b < w'.heap.size := by
   intro b hb'
   rcases ho.2 with ⟨h, -⟩ | ⟨g, cap, cur, hv, hg, hh, r⟩
   ·rw [h] at hb'; cases hb'
   ·rw [hv] at hb'
    simp [Value.ownBlock] at hb'
    subst hb'
    exact ⟨hg, qi hh⟩
  refine ⟨_, [] ++ (u.ownBlock.toList ++ ([] ++ [])), rfl, .tup (.cons (.pv (.v rfl)) (.cons (.own qa (by rw [zp]; exact xe _) (fun x hx => by obtain ⟨y, -, rfl⟩ := List.mem_map.1 hx; rfl) (fun x hx c hc => by obtain ⟨y, -, rfl⟩ := List.mem_map.1 hx; simp [PV.cells, u8P] at hc; subst hc; rfl) (by rw [List.length_map]; exact ho.base (Nat.zero_le _))) (.cons (.pv (.v rfl)) .nil))), ?_, ?_, hf⟩
  ·simp only [List.nil_append, List.append_nil]
   cases u.ownBlock <;> simp
  ·intro b hb
   exact hv b Y98
end Go.Bl
namespace Go.Proofs.YtnafknkchbfpaaaGreatDoor
open Go.RowKit Go.Bl
end Go.Proofs.YtnafknkchbfpaaaGreatDoor
