import Derived.Test.YtnafknkchbfpaaaGreatDoorSStr
import Derived.Test.YtnafknkchbfpaaaGreatDoorPH
import Derived.Test.YtnafknkchbfpaaaGreatDoorPK
set_option maxRecDepth 1000000
set_option maxHeartbeats 8000000
namespace Go.Proofs.YtnafknkchbfpaaaGreatDoor
open Go.RowKit Go.Bl
set_option linter.unusedVariables false
theorem qdj (a : Go.Act) (hs : a.tmps.size = 69) (hd : a.defers = []) : a = ⟨(slot a 0 :: slot a 1 :: slot a 2 :: slot a 3 :: slot a 4 :: slot a 5 :: slot a 6 :: slot a 7 :: slot a 8 :: slot a 9 :: slot a 10 :: slot a 11 :: slot a 12 :: slot a 13 :: slot a 14 :: slot a 15 :: slot a 16 :: slot a 17 :: slot a 18 :: slot a 19 :: slot a 20 :: slot a 21 :: slot a 22 :: slot a 23 :: slot a 24 :: slot a 25 :: slot a 26 :: slot a 27 :: slot a 28 :: slot a 29 :: slot a 30 :: slot a 31 :: slot a 32 :: slot a 33 :: slot a 34 :: slot a 35 :: slot a 36 :: slot a 37 :: slot a 38 :: slot a 39 :: slot a 40 :: slot a 41 :: slot a 42 :: slot a 43 :: slot a 44 :: slot a 45 :: slot a 46 :: slot a 47 :: slot a 48 :: slot a 49 :: slot a 50 :: slot a 51 :: slot a 52 :: slot a 53 :: slot a 54 :: slot a 55 :: slot a 56 :: slot a 57 :: slot a 58 :: slot a 59 :: slot a 60 :: slot a 61 :: slot a 62 :: slot a 63 :: slot a 64 :: slot a 65 :: slot a 66 :: slot a 67 :: slot a 68 :: []).toArray, []⟩ := zF a 69 hs hd
noncomputable def qf8 : Code := ((Tryz.f21.body.bind (qq 9)).getD .skip)
theorem ss9 (w : World) (a : Go.Act) (hsz : a.tmps.size = 69) (j D I R : Int) (mb ob : Nat) (h5 : w.cell? ⟨mb, 5, none⟩ = some (.pointer (some ⟨ob, 0, none⟩))) (h7 : w.cell? ⟨mb, 7, none⟩ = some (.int .i64 D)) (hI : IntKind.i64.wrap (D + j) = I) (hto : ∀ p, Fr [] w p -> Calls Tryz.prog 65 #[.pointer (some ⟨ob, 0, none⟩), .int .i64 I] p fun e w' => e = .returned (.tuple #[.int .i64 R, .nilIface]) /\ Fr [] p w') (h3 : slot a 3 = .int .i64 j) (h11 : slot a 11 = .pointer (some ⟨mb, 0, none⟩)) (Q : Exit -> Go.Act -> World -> Prop)
  (hQ : ∀ (b : Go.Act) (p : World), b.defers = a.defers -> b.tmps.size = 69 -> (∀ s, s ∉ ([50, 51, 52, 53, 54, 55, 56, 57, 58, 59, 60, 49, 61, 62, 14, 12] : List Nat) -> slot b s = slot a s) -> slot b 14 = .int .i64 R -> slot b 12 = .nilIface -> Fr [] w p -> Q .normal b p) : Code.wp Tryz.prog qf8 Q a w := by
 conv => arg 2; whnf
 refine zq qe qe [some 50, some 51, some 52, some 53, some 54, some 55, some 56, some 57, some 58, some 59, some 60, some 49, some 61, some 62, some 14, some 12] [10] [.rd (.pointer (some ⟨mb, 0, none⟩)) 1, .rd (.pointer (some ⟨mb, 0, none⟩)) 1, .rd (.pointer (some ⟨mb, 5, none⟩)) 1, .rd (.pointer (some ⟨ob, 0, none⟩)) 1, .rd (.pointer (some ⟨mb, 0, none⟩)) 1, .rd (.pointer (some ⟨mb, 0, none⟩)) 1, .rd (.pointer (some ⟨mb, 7, none⟩)) 1, .rd (.int .i64 D) 1, .rd (.int .i64 j) 1, .rd (.int .i64 I) 1, .st 0, .rd (.tuple #[.int .i64 R, .nilIface]) 1, .rd (.int .i64 R) 1, .rd (.nilIface) 1, .rd (.int .i64 R) 1, .rd (.nilIface) 1] (fun cj => if cj = 0 then (.tuple #[.int .i64 R, .nilIface]) else undef) (fun s g p => Fr [] w p) qe Y69 W8 qe qe qd ?_ ⟨?_, ?_, ?_, ?_, ?_, ?_, ?_, ?_, ?_, ?_, ?_, ?_, ?_, ?_, ?_, ?_, trivial⟩ ?_
 ·intro w1 hw1
  exact ⟨fun _ => undef, hw1⟩
 ·refine ⟨⟨50, rfl⟩, .inl rfl, fun b p s g hs hlow hS h => ?_⟩
  have e0 := h.eo qd h11
  exact Y2
 ·refine ⟨⟨51, rfl⟩, .inl rfl, fun b p s g hs hlow hS h => ?_⟩
  have e0 := h.er 0 50 qe rfl rfl
  exact Y2
 ·refine ⟨⟨52, rfl⟩, .inl rfl, fun b p s g hs hlow hS h => ?_⟩
  have e0 := h.er 1 51 qe rfl rfl
  exact Y2
 ·refine ⟨⟨53, rfl⟩, .inl rfl, fun b p s g hs hlow hS h => ?_⟩
  have e0 := h.er 2 52 qe rfl rfl
  have hf := hS
  have c0 := (show p.cell? ⟨mb, 5, none⟩ = some (.pointer (some ⟨ob, 0, none⟩)) from qG hf qf h5)
  exact Y7
 ·refine ⟨⟨54, rfl⟩, .inl rfl, fun b p s g hs hlow hS h => ?_⟩
  have e0 := h.eo qd h11
  exact Y2
 ·refine ⟨⟨55, rfl⟩, .inl rfl, fun b p s g hs hlow hS h => ?_⟩
  have e0 := h.er 4 54 qe rfl rfl
  exact Y2
 ·refine ⟨⟨56, rfl⟩, .inl rfl, fun b p s g hs hlow hS h => ?_⟩
  have e0 := h.er 5 55 qe rfl rfl
  exact Y2
 ·refine ⟨⟨57, rfl⟩, .inl rfl, fun b p s g hs hlow hS h => ?_⟩
  have e0 := h.er 6 56 qe rfl rfl
  have hf := hS
  have c0 := (show p.cell? ⟨mb, 7, none⟩ = some (.int .i64 D) from qG hf qf h7)
  exact Y7
 ·refine ⟨⟨58, rfl⟩, .inl rfl, fun b p s g hs hlow hS h => ?_⟩
  have e0 := h.eo qd h3
  exact Y2
 ·refine ⟨⟨59, rfl⟩, .inl rfl, fun b p s g hs hlow hS h => ?_⟩
  have e0 := h.er 7 57 qe rfl rfl
  have e1 := h.er 8 58 qe rfl rfl
  refine gw0 rfl rfl ?_
  obtain ⟨ρ, hρ, ec⟩ := evx b
  rw [hρ] at e0 e1 ⊢
  unfold execOp; simp [go_sem, e0, e1, ec, hI]
 ·refine ⟨rfl, .inl rfl, fun b p g hS h => ?_⟩
  have e0 := h.er 3 53 qe rfl rfl
  have e1 := h.er 9 59 qe rfl rfl
  have hf := hS
  refine qV _ Y69 (qu rfl) 65 _ _ rfl #[.pointer (some ⟨ob, 0, none⟩), .int .i64 I] Y73 Y75 ((hto p hf).mono ?_)
  rintro e p' ⟨rfl, hf'⟩
  exact ⟨_, rfl, hf.trans hf', .inr rfl⟩
 ·refine ⟨⟨49, rfl⟩, .inl rfl, fun b p s g hs hlow hS h => ?_⟩
  have e0 := (show b.eval (.tmp 60) = .tuple #[.int .i64 R, .nilIface] from h.st 10 _ 60 qe rfl rfl)
  exact Y2
 ·refine ⟨⟨61, rfl⟩, .inl rfl, fun b p s g hs hlow hS h => ?_⟩
  have e0 := h.er 11 49 qe rfl rfl
  exact Y2
 ·refine ⟨⟨62, rfl⟩, .inl rfl, fun b p s g hs hlow hS h => ?_⟩
  have e0 := h.er 11 49 qe rfl rfl
  exact Y2
 ·refine ⟨⟨14, rfl⟩, .inl rfl, fun b p s g hs hlow hS h => ?_⟩
  have e0 := h.er 12 61 qe rfl rfl
  exact Y2
 ·refine ⟨⟨12, rfl⟩, .inl rfl, fun b p s g hs hlow hS h => ?_⟩
  have e0 := h.er 13 62 qe rfl rfl
  exact Y2
 ·intro b p h1 h2 h3 h4 h5
  obtain ⟨g, h4, h6⟩ := h4
  have r14 : slot b 14 = .int .i64 R := h5 14 (.int .i64 R) _ 14 rfl rfl
  have r12 : slot b 12 = .nilIface := h5 15 (.nilIface) _ 12 rfl rfl
  exact hQ b p h1 (h2.trans hsz) (fun s hs => h3 s (fun hm => hs Y87)) r14 r12 h4
theorem Ul (E : Nat -> Addr) (B : Nat) (w0 : World) (mv : Value) (m : List UInt8) (n j : Int) (p : Par) (hE : j7 all20 E B w0) (hS : SG w0) (hB : Bs (fun b => w0.heap.size <= b) w0 mv m) :
  Calls Tryz.prog 21 #[mv, .int .i64 n, .agg #[.int .i64 p.size, .int .i64 p.sent, .int .i64 p.spots, .int .i64 p.per, .int .i64 p.pat, .int .i64 p.ret], .int .i64 j] w0 fun e w' => (sdE p m n = 0 -> (0 <= j /\ j < p.sent) -> ∃ u, e = .returned (.tuple #[.int .i64 ((ji (qn m qM n) (blk p.size + p.sent).toNat ((blk p.size).toNat + j.toNat) : Nat) : Int), u, .nilIface]) /\ qh 5 w0.heap.size w' u (ze (qn m jR n) ((ji (qn m qM n) (blk p.size + p.sent).toNat ((blk p.size).toNat + j.toNat) : Nat) : Int) (uK (qn m jp n) j))) /\ (sdE p m n = 0 -> ¬ (0 <= j /\ j < p.sent) -> e = .returned (.tuple #[.int .i64 0, .slice none 0 0, ue E 18])) /\ (sdE p m n ≠ 0 -> ∃ ev, e = .returned (.tuple #[.int .i64 0, .slice none 0 0, ev]) /\ yd E w' (sdE p m n) ev) /\ Fr [] w0 w' := by
 obtain ⟨ma, mc, rfl, -, -, -⟩ := id hB
 obtain ⟨mn, hmn⟩ := exq (m.length)
 rw [hmn] at hB ⊢
 have hN9 : sdE p m n = 0 -> (0 <= blk p.size /\ blk p.size <= 510) /\ 0 <= p.sent /\ p.sent <= 8 := fun h => by
  have hc : chk p = 0 := by
   by_cases hc : chk p = 0
   ·exact hc
   ·unfold sdE at h
    rw [if_pos hc] at h
    exact h
  have ho := yy hc
  exact ⟨blk_le ho.1, ho.2⟩
 obtain ⟨NN, hNN⟩ := exq ((blk p.size + p.sent).toNat)
 obtain ⟨DD, hDD⟩ := exq ((blk p.size).toNat)
 obtain ⟨jn, hjn⟩ := exq (j.toNat)
 rw [hNN, hDD, hjn]
 obtain ⟨Z, hZ⟩ := exq (w0.heap.size)
 have F1 : Fr [] w0 (w0.alloc (.cells #[.int .i64 p.size, .int .i64 p.sent, .int .i64 p.spots, .int .i64 p.per, .int .i64 p.pat, .int .i64 p.ret] 24)) := Fr.alloc _ _
 have HC := Hdq (Wm E B (w0.alloc (.cells #[.int .i64 p.size, .int .i64 p.sent, .int .i64 p.spots, .int .i64 p.per, .int .i64 p.pat, .int .i64 p.ret] 24)) (.slice ma mn mc) m n p (hE.keep0 F1) (hS.keep F1) (hB.mono (A' := fun b => (w0.alloc (.cells #[.int .i64 p.size, .int .i64 p.sent, .int .i64 p.spots, .int .i64 p.per, .int .i64 p.pat, .int .i64 p.ret] 24)).heap.size <= b) F1 qf (fun b hb => .inl Y98)))
 have HA := Hdq (show At (w0.alloc (.cells #[.int .i64 p.size, .int .i64 p.sent, .int .i64 p.spots, .int .i64 p.per, .int .i64 p.pat, .int .i64 p.ret] 24)) Z (.cells #[.int .i64 p.size, .int .i64 p.sent, .int .i64 p.spots, .int .i64 p.per, .int .i64 p.pat, .int .i64 p.ret] 24) from At.new hZ.symm)
 have HF := Hdq F1
 have HE := Hdq (fun wi (h : Fr [] w0 wi) => hE.keep0 h)
 have HS := Hdq (fun wi (h : Fr [] w0 wi) => hS.keep h)
 have HN9 := Hdq hN9
 have HZ := Hdq hZ
 have HNN := Hdq (And.intro hNN (And.intro hDD hjn))
 clear hmn hE hS hB F1 hN9 hNN hDD hjn
 go_enter Tryz.func21, Tryz.ntmps21
 go_wp2_with (go_at_call 64; fail)
 clear hZ
 refine HC.out.mono ?_
 rintro e w2 ⟨h1, h2, hf⟩
 replace HA := Hdq (HA.out.keep0 hf)
 have HF2 := Hdq (HF.out.trans hf)
 have cs : w2.cell? ⟨Z, 1, none⟩ = some (.int .i64 p.sent) := HA.out.cell 1
 by_cases hk : sdE p m n = 0
 ·obtain ⟨mb, rfl, hm⟩ := h1 hk
  have HK := Hdq hk
  have HM := Hdq hm
  have hn9 := HN9.out hk
  clear h1 h2 hk hm hf HC HF
  by_cases hj : 0 <= j /\ j < p.sent
  ·have HJ := Hdq hj
   have hj0 : ¬ j < 0 := by omega
   have hj1 : ¬ p.sent <= j := by omega
   obtain ⟨u0, u1, u2, u3, u4, ob, kb, okb, a1, a2, a3, a4, a5, a6⟩ := HM.out
   obtain ⟨ka, kc, rfl, -, -, -⟩ := id a6
   rw [xP] at a1 a6
   obtain ⟨hNN, hDD, hjn⟩ := HNN.out
   obtain rfl : j = (jn : Int) := by omega
   rw [hNN] at a1 a2
   rw [hDD] at a1
   have HNV := Hdq (show NN <= 1048576 /\ DD + jn < NN by omega)
   have hDJ : IntKind.i64.wrap ((DD : Int) + (jn : Int)) = ((DD + jn : Nat) : Int) := by rw [IntKind.wrap_i64]; omega
   have c2 : w2.cell? ⟨mb, 2, none⟩ = some (.slice ka 32 kc) := a1.cell 2
   have HH := Hdq (And.intro a1 (And.intro a2 (And.intro a3 (And.intro a6 hDJ))))
   have HMM := Hdq (show yQ w2 mb NN DD m n from by have h := HM.out; rw [hNN, hDD] at h; exact h)
   clear hj hn9 a1 a2 a3 a4 a5 a6 hNN hDD hDJ hjn HN9 HM HNN
   go_wp2_with (go_at_call 67; fail)
   clear cs c2
   refine (Zt E B w2 (.slice ka 32 kc) (qn m jp n) (jn : Int) (HE.out _ HF2.out) (zk HH.out.2.2.2.1) (by rw [xP]; decide) (HS.out _ HF2.out)).mono ?_
   rintro e w3 ⟨u, rfl, hu, -, hf⟩
   have hc0 : uh (jn : Int) = 0 := Jo (by have := HJ.out; have := HNV.out; omega)
   have hub := hu hc0
   obtain ⟨ua, un, uc, rfl⟩ := jK hub
   rw [hc0, uz]
   have HU := Hdq (hub.bs (A := fun _ => False) (fun _ h => h.elim))
   have HF3 := Hdq (HF2.out.trans hf)
   have HM3 := Hdq (HMM.out.keep hf)
   have HA3 := Hdq (HH.out.1.keep0 hf)
   have HO3 := Hdq (And.intro (HH.out.2.1.keep hf) (HH.out.2.2.1.keep hf))
   clear hu hub hf hc0 HF2 HMM
   go_wp2
   refine ss9 w3 _ rfl (jn : Int) (DD : Int) ((DD + jn : Nat) : Int) ((ji (qn m qM n) NN (DD + jn) : Nat) : Int) mb ob (HA3.out.cell 5) (HA3.out.cell 7) HH.out.2.2.2.2 (fun v hv => qbG v ob okb NN (DD + jn) (qn m qM n) (HO3.out.1.keep hv) (HO3.out.2.keep hv) (HS.out _ (HF3.out.trans hv)) HNV.out.1 HNV.out.2) rfl rfl _ ?_
   intro b v hd hs ho r14 r12 hf
   obtain ⟨R, hR⟩ := exq (ji (qn m qM n) NN (DD + jn))
   have HRR := Hdq hR
   rw [hR] at r14
   rw [qdj b hs hd, r14, r12, show slot b 11 = .pointer (some ⟨mb, 0, none⟩) from ho 11 qd, show slot b 13 = .slice ua un uc from ho 13 qd]
   have HF4 := Hdq (HF3.out.trans hf)
   have HM4 := Hdq (HM3.out.keep hf)
   have HU4 := Hdq (HU.out.keep hf qf)
   clear hf ho hs hd r14 r12 hR
   go_wp2_with (go_at_call 68; fail)
   refine (UZ v mb NN DD m n (.slice ua un uc) (uK (qn m jp n) (jn : Int)) (R : Int) HM4.out HU4.out (HS.out _ HF4.out) (by rw [Yv]; decide)).mono ?_
   rintro e w5 ⟨z, rfl, hz, hf⟩
   have HZ5 := Hdq (hz.base (base' := w0.heap.size) HF4.out.size)
   have HF5 := Hdq (HF4.out.trans hf)
   clear hz hf
   go_wp2
   refine bodyPost_ret (results_tmp3 rfl _ _ _) rfl ?_
   exact ⟨fun _ _ => by rw [HRR.out]; exact ⟨_, rfl, HZ5.out⟩, fun _ h => absurd HJ.out h, fun h => absurd HK.out h, HF5.out⟩
  ·have HJ := Hdq hj
   have he := (HE.out _ HF2.out).cell 18 qd
   simp only [gOf, List.getD_eq_getElem?_getD, List.getElem?_cons_zero, List.getElem?_cons_succ, Option.getD_some] at he
   by_cases hj0 : j < 0
   ·exact Y32
   ·have hj1 : p.sent <= j := by omega
    exact Y32
 ·obtain ⟨ev, rfl, hv⟩ := h2 hk
  obtain ⟨t, a, rfl⟩ := hv.some_of hk
  have HV := Hdq hv
  have HK := Hdq hk
  clear h1 h2 hf hk hv HC HF cs
  go_wp2
  refine bodyPost_ret (results_tmp3 rfl _ _ _) rfl ?_
  exact ⟨fun h => absurd h HK.out, fun h => absurd h HK.out, fun _ => ⟨_, rfl, HV.out⟩, HF2.out⟩
end Go.Proofs.YtnafknkchbfpaaaGreatDoor
namespace Go.Bl
open Go.RowKit Go.Proofs Go.Proofs.YtnafknkchbfpaaaGreatDoor
set_option maxRecDepth 100000
abbrev xI (h : Hh) (p : Par) : PV := .a [iH h p.size, iH h p.sent, iH h p.spots, iH h p.per, iH h p.pat, iH h p.ret]
def qgk (p : Par) : List Value := [.int .i64 p.size, .int .i64 p.sent, .int .i64 p.spots, .int .i64 p.per, .int .i64 p.pat, .int .i64 p.ret]
theorem Xb {A : Nat -> Prop} {w : World} {p : Par} {u : Value} (h : je A w (.a [iP p.size, iP p.sent, iP p.spots, iP p.per, iP p.pat, iP p.ret]) u) : u = .agg #[.int .i64 p.size, .int .i64 p.sent, .int .i64 p.spots, .int .i64 p.per, .int .i64 p.pat, .int .i64 p.ret] :=
 qeM (xs := qgk p) h
theorem Z8 (Z : Ad) (h : Hh) (hh : ∀ α g, h α g = g ()) (p : Par) (hc : chk p = 0) : jw Z 32 [.pv (xI h p)] (.tup [.pv (iH h (blk p.size + p.sent)), .pv (.v .nilIface)]) [.any] := by
 simp only [xI, iH, hh]
 refine vI (xs := [.a [iP p.size, iP p.sent, iP p.spots, iP p.per, iP p.pat, iP p.ret]]) (.tuple #[.int .i64 (blk p.size + p.sent), .nilIface]) Tryz.func32 rfl rfl (fun A w => .tup (.cons (.pv (.v rfl)) (.cons (.pv (.v rfl)) .nil))) fun A w us hA he hr => ?_
 cases hr with
 | cons h1 h2 =>
  cases h2
  rw [Xb h1]
  refine (Zv Z.e _ w p (uV he)).mono ?_
  rintro e w' ⟨n, ev, rfl, hev, h1, -, hf⟩
  rw [hc] at hev
  rw [hev.nil_iff, h1 hc]
  exact ⟨rfl, hf⟩
theorem WS (Z : Ad) (h : Hh) (hh : ∀ α g, h α g = g ()) (m xs : List UInt8) (n x : Int) (hk : qp m n = 0) : jw Z 13 [.pv (bH h m), .pv (iH h n), .pv (iH h x), .pv (bH h xs)] (.tup [.pv (tH h (yU m n x xs)), .pv (.v .nilIface)]) [.any, .any, .any, .any] := by
 simp only [bH, lH, tH, iH, hh]
 refine vI (xs := [bP m, iP n, iP x, bP xs]) (.tuple #[.bool (yU m n x xs), .nilIface]) Tryz.func13 rfl rfl (fun A w => .tup (.cons (.pv (.v rfl)) (.cons (.pv (.v rfl)) .nil))) fun A w us hA he hr => ?_
 cases hr with
 | cons h1 hr =>
 cases hr with
 | cons h2 hr =>
 cases hr with
 | cons h3 hr =>
 cases hr with
 | cons h4 hr =>
  cases hr
  rw [y6 h2, y6 h3]
  have := VA Z.e _ w _ _ m xs n x (uV he) (Jg he) (zP h1) (zP h4).any
  rw [hk] at this
  exact this
theorem VI (Z : Ad) (h : Hh) (hh : ∀ α g, h α g = g ()) (m : List UInt8) (n j : Int) (p : Par) (hs : sdE p m n = 0) (hj : 0 <= j /\ j < p.sent) :
  jw Z 21 [.pv (bH h m), .pv (iH h n), .pv (xI h p), .pv (iH h j)] (.tup [.pv (nH h (ji (qn m qM n) (blk p.size + p.sent).toNat ((blk p.size).toNat + j.toNat))),
   .own 5 1 (h _ fun _ => (ze (qn m jR n) ((ji (qn m qM n) (blk p.size + p.sent).toNat ((blk p.size).toNat + j.toNat) : Nat) : Int) (uK (qn m jp n) j)).map u8P), .pv (.v .nilIface)]) [.any, .any, .any, .any] := by
 simp only [bH, lH, nH, iH, xI, hh, nI]
 refine Jf (xs := [bP m, iP n, .a [iP p.size, iP p.sent, iP p.spots, iP p.per, iP p.pat, iP p.ret], iP j]) Tryz.func21 rfl rfl fun A w us hA he hr => ?_
 cases hr with
 | cons h1 hr =>
 cases hr with
 | cons h2 hr =>
 cases hr with
 | cons h3 hr =>
 cases hr with
 | cons h4 hr =>
  cases hr
  rw [y6 h2, Xb h3, y6 h4]
  refine (Ul Z.e _ w _ m n j p (uV he) (Jg he) (zP h1)).mono ?_
  rintro e w' ⟨g1, -, -, hf⟩
  obtain ⟨u, rfl, ho⟩ := g1 hs hj
  have hv : ∀ b ∈ u.ownBlock.toList, w.heap.size <= b /\ b < w'.heap.size := by
   intro b hb'
   rcases ho.2 with ⟨h, -⟩ | ⟨g, cap, cur, hv, hg, hh, r⟩
   ·rw [h] at hb'; cases hb'
   ·rw [hv] at hb'
    simp [Value.ownBlock] at hb'
    subst hb'
    exact ⟨hg, ql hh⟩
  refine ⟨_, [] ++ (u.ownBlock.toList ++ ([] ++ [])), rfl, .tup (.cons (.pv (.v rfl)) (.cons (.own qd (by rw [uC]; exact vg _) (fun x hx => by obtain ⟨y, -, rfl⟩ := List.mem_map.1 hx; rfl) (fun x hx c hc => by obtain ⟨y, -, rfl⟩ := List.mem_map.1 hx; simp [PV.cells, u8P] at hc; subst hc; rfl) (by rw [List.length_map]; exact ho.base (Nat.zero_le _))) (.cons (.pv (.v rfl)) .nil))), ?_, ?_, hf⟩
  ·simp only [List.nil_append, List.append_nil]
   cases u.ownBlock <;> simp
  ·intro b hb
   exact hv b Ya
def Xh (m xs : List UInt8) (n : Int) (p : Par) : List PV := .l ((zw m n xs p.sent.toNat).map bP) :: ((jx ((zw m n xs p.sent.toNat).map qS)).map u8P ++ (jf xs).map u8P)
theorem qb8 (Z : Ad) (h : Hh) (hh : ∀ α g, h α g = g ()) (m xs : List UInt8) (n : Int) (p : Par) (hc : chk p = 0) (hk : qp m n = 0) (hx : (xs.length : Int) = p.size) :
  jw Z 26 [.pv (bH h m), .pv (iH h n), .pv (bH h xs), .pv (xI h p)] (.tup [.pv (.a (h _ fun _ => Xh m xs n p)), .pv (.v .nilIface)]) [.any, .any, .any, .any] := by
 simp only [bH, lH, iH, xI, hh]
 refine Jf (xs := [bP m, iP n, bP xs, .a [iP p.size, iP p.sent, iP p.spots, iP p.per, iP p.pat, iP p.ret]]) Tryz.func26 rfl rfl fun A w us hA he hr => ?_
 cases hr with
 | cons h1 hr =>
 cases hr with
 | cons h2 hr =>
 cases hr with
 | cons h3 hr =>
 cases hr with
 | cons h4 hr =>
  cases hr
  rw [y6 h2, Xb h4]
  refine (X9 Z.e _ w _ _ m xs n p (uV he) (Jg he) (zP h1) (zP h3).any hc hk hx).mono ?_
  rintro e w' ⟨u, us, r, hs, rfl, g1, g2, rfl, rfl, hf⟩
  have e1 : (us.map fun x => qS x.2) = (zw m n xs p.sent.toNat).map qS := by rw [<- g2, List.map_map]; rfl
  refine ⟨_, [], rfl, .tup (.cons (.pv (.a (us := u :: _) ?_ ?_)) (.cons (.pv (.v rfl)) .nil)), by simp, by simp, hf⟩
  ·rw [Xh, <- g2, e1, <- g2]
   refine .cons (WE (uL (S := []) g1 (Fr.refl _ _) qf fun b hb => .inl (hA b Ya))) ?_
   exact (vg _).app (vg _)
  ·intro c hc
   rcases List.mem_cons.1 hc with rfl | hc
   ·rfl
   ·rcases List.mem_append.1 hc with hc | hc <;> obtain ⟨b, -, rfl⟩ := List.mem_map.1 hc <;> rfl
theorem vE (Z : Ad) : jw Z 9 [] (.pv (.v (.bool true))) [] := by
 refine vI (xs := []) (.bool true) Tryz.func9 rfl rfl (fun A w => .pv (.v rfl)) fun A w us hA he hr => ?_
 cases hr
 exact Ww Z.e _ w (uV he) (Jg he)
end Go.Bl
namespace Go.Proofs.YtnafknkchbfpaaaGreatDoor
open Go.RowKit Go.Bl
set_option linter.unusedVariables false
theorem qay {m xs : List UInt8} {n : Int} {s : Nat} (hN : (qt xs).length + s <= 512) (hk : qp m n = 0) {i : Nat} (hi : i < (zw m n xs s).length) :
  ((zw m n xs s)[i]).length = 16 /\ yU m n (i : Int) ((zw m n xs s)[i]) = true := by
 rw [vD] at hi
 obtain ⟨b, h1, h2⟩ := YF m xs n s Y62 i hi
 have e : (zw m n xs s)[i]'(by rw [vD]; exact hi) = ze (qn m jR n) (i : Int) b := by
  rw [List.getElem?_eq_getElem (by rw [vD]; exact hi)] at h2
  exact Option.some.inj h2
 rw [e]
 have hl : (ze (qn m jR n) (i : Int) b).length = 16 := by rw [Zs, h1]
 refine ⟨hl, decide_eq_true ⟨hk, hl, ⟨by omega, by omega⟩, ?_⟩⟩
 have e1 : (ze (qn m jR n) (i : Int) b).drop 8 = vY (qn m jR n) (beK 8 (i : Int) ++ b) := by
  rw [ze, List.drop_append, List.drop_eq_nil_of_le Y62, h1]
  rfl
 have e2 : (ze (qn m jR n) (i : Int) b).take 8 = b := by
  rw [ze, List.take_append_of_le_length Y62, List.take_of_length_le Y62]
 rw [e1, e2]
theorem YY {m xs : List UInt8} {n : Int} {s : Nat} (hN : (qt xs).length + s <= 512) {j : Nat} (hj : j < s) :
  ji (qn m qM n) ((qt xs).length + s) ((qt xs).length + j) < (qt xs).length + s /\
  (zw m n xs s)[ji (qn m qM n) ((qt xs).length + s) ((qt xs).length + j)]? = some (ze (qn m jR n) ((ji (qn m qM n) ((qt xs).length + s) ((qt xs).length + j) : Nat) : Int) (uK (qn m jp n) (j : Int))) := by
 obtain ⟨all, ha⟩ := exq (UB (qn m zI n) (qn m jp n) (qt xs) s)
 have hl : all.length = (qt xs).length + s := by rw [<- ha, Qx]
 have hP := fun j (hj : j < all.length) => Q3 (key := qn m qM n) (n := all.length) Y62 hj
 have hinj := fun a c (h1 : a < all.length) (h2 : c < all.length) h => ZH (key := qn m qM n) (n := all.length) Y62 h1 h2 h
 have h := Je (P := ji (qn m qM n) all.length) (T := fun p b => ze (qn m jR n) (p : Int) b) hP hinj all.length (Nat.le_refl _) ((qt xs).length + j) Y62
 have hg : all.getD ((qt xs).length + j) [] = uK (qn m jp n) (j : Int) := by
  rw [<- ha, UB, List.getD_eq_getElem?_getD, List.getElem?_append_right qf]
  simp [hj]
 rw [hg] at h
 rw [hl] at h hP
 refine ⟨hP _ Y62, ?_⟩
 unfold zw
 simp only [ha, hl]
 exact h
theorem qaQ {p : Par} {xs : List UInt8} (h : (xs.length : Int) = p.size) (hc : chk p = 0) : ((qt xs).length : Int) = blk p.size /\ 0 <= p.sent /\ p.sent <= 8 /\ (qt xs).length <= 314 /\ 1 <= (qt xs).length := by
 have ho := yy hc
 obtain ⟨h1, h2⟩ := ho.2
 have h3 : 0 <= p.size /\ p.size <= 2000 := ho.1
 have hl : (qt xs).length = nB xs.length + 32 * (shN (nB xs.length)).length := by
  unfold qt
  rw [yo [] _ _ (by rw [yz, Vd]; exact Nat.le_refl _), yz]
 have hs := Xd (nB xs.length)
 have hn : 1 <= nB xs.length /\ nB xs.length <= 250 := by unfold nB; omega
 exact ⟨W5 h ho.1, h1, h2, by omega, by omega⟩
theorem Zj : ∀ (n : Nat) (l : List Dg) (i : Nat), l.length = n -> (∀ d ∈ l, d.length = 32) -> ∀ d ∈ zD l i, d.length = 32
 | n, l, i, hl, h, d, hd => by
  by_cases h1 : n <= 1
  ·rw [yB Y62] at hd; cases hd
  ·have hb := qO n Y62
   by_cases hi : i < qi n
   ·have hlt : (l.take (qi n)).length = qi n := by rw [List.length_take]; omega
    rw [xw Y62 qa6, hl] at hd
    rcases List.mem_append.1 hd with hd | hd
    ·exact Zj (qi n) _ i hlt (fun d hd => h d (List.mem_of_mem_take hd)) d hd
    ·obtain rfl := List.mem_singleton.1 hd
     exact overL_32 _ (fun d hd => h d (List.mem_of_mem_drop hd)) Y89
   ·have hlt : (l.drop (qi n)).length = n - qi n := by rw [List.length_drop]; omega
    rw [vh Y62 qa6, hl] at hd
    rcases List.mem_append.1 hd with hd | hd
    ·exact Zj (n - qi n) _ _ hlt (fun d hd => h d (List.mem_of_mem_drop hd)) d hd
    ·obtain rfl := List.mem_singleton.1 hd
     exact overL_32 _ (fun d hd => h d (List.mem_of_mem_take hd)) Y78
termination_by n => n
decreasing_by
 ·omega
 ·omega
end Go.Proofs.YtnafknkchbfpaaaGreatDoor
