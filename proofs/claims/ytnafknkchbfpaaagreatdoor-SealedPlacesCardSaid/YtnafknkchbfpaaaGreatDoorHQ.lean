import Derived.Test.YtnafknkchbfpaaaGreatDoorGB
import Derived.Test.YtnafknkchbfpaaaGreatDoorStr
import Derived.Test.YtnafknkchbfpaaaGreatDoorGD
import Derived.Test.YtnafknkchbfpaaaGreatDoorHI
import Derived.Outline
import Derived.Maps.RangeWalk
import Derived.Deep.QuietTactic
import Derived.BigQuiet
set_option maxRecDepth 1000000
set_option maxHeartbeats 8000000
namespace Go.Proofs.YtnafknkchbfpaaaGreatDoor
open Go.RowKit Go.Bl
set_option linter.unusedVariables false
theorem frame69 (a : Go.Act) (hs : a.tmps.size = 69) (hd : a.defers = []) : a = ⟨(slot a 0 :: slot a 1 :: slot a 2 :: slot a 3 :: slot a 4 :: slot a 5 :: slot a 6 :: slot a 7 :: slot a 8 :: slot a 9 :: slot a 10 :: slot a 11 :: slot a 12 :: slot a 13 :: slot a 14 :: slot a 15 :: slot a 16 :: slot a 17 :: slot a 18 :: slot a 19 :: slot a 20 :: slot a 21 :: slot a 22 :: slot a 23 :: slot a 24 :: slot a 25 :: slot a 26 :: slot a 27 :: slot a 28 :: slot a 29 :: slot a 30 :: slot a 31 :: slot a 32 :: slot a 33 :: slot a 34 :: slot a 35 :: slot a 36 :: slot a 37 :: slot a 38 :: slot a 39 :: slot a 40 :: slot a 41 :: slot a 42 :: slot a 43 :: slot a 44 :: slot a 45 :: slot a 46 :: slot a 47 :: slot a 48 :: slot a 49 :: slot a 50 :: slot a 51 :: slot a 52 :: slot a 53 :: slot a 54 :: slot a 55 :: slot a 56 :: slot a 57 :: slot a 58 :: slot a 59 :: slot a 60 :: slot a 61 :: slot a 62 :: slot a 63 :: slot a 64 :: slot a 65 :: slot a 66 :: slot a 67 :: slot a 68 :: []).toArray, []⟩ := frameX a 69 hs hd
noncomputable def ss9R : Code := ((Tryz.f21.body.bind (findRegionC 9)).getD .skip)
theorem ss9 (w : World) (a : Go.Act) (hsz : a.tmps.size = 69) (j D I R : Int) (mb ob : Nat) (h5 : w.cell? ⟨mb, 5, none⟩ = some (.pointer (some ⟨ob, 0, none⟩))) (h7 : w.cell? ⟨mb, 7, none⟩ = some (.int .i64 D)) (hI : IntKind.i64.wrap (D + j) = I) (hto : ∀ p, Fr [] w p -> Calls Tryz.prog 65 #[.pointer (some ⟨ob, 0, none⟩), .int .i64 I] p fun e w' => e = .returned (.tuple #[.int .i64 R, .nilIface]) /\ Fr [] p w') (h3 : slot a 3 = .int .i64 j) (h11 : slot a 11 = .pointer (some ⟨mb, 0, none⟩)) (Q : Exit -> Go.Act -> World -> Prop)
  (hQ : ∀ (b : Go.Act) (p : World), b.defers = a.defers -> b.tmps.size = 69 -> (∀ s, s ∉ ([50, 51, 52, 53, 54, 55, 56, 57, 58, 59, 60, 49, 61, 62, 14, 12] : List Nat) -> slot b s = slot a s) -> slot b 14 = .int .i64 R -> slot b 12 = .nilIface -> Fr [] w p -> Q .normal b p) : Code.wp Tryz.prog ss9R Q a w := by
 conv => arg 2; whnf
 refine wp_region_ghost (by kernel_rfl) (by kernel_rfl) [some 50, some 51, some 52, some 53, some 54, some 55, some 56, some 57, some 58, some 59, some 60, some 49, some 61, some 62, some 14, some 12] [10] [.rd (.pointer (some ⟨mb, 0, none⟩)) 1, .rd (.pointer (some ⟨mb, 0, none⟩)) 1, .rd (.pointer (some ⟨mb, 5, none⟩)) 1, .rd (.pointer (some ⟨ob, 0, none⟩)) 1, .rd (.pointer (some ⟨mb, 0, none⟩)) 1, .rd (.pointer (some ⟨mb, 0, none⟩)) 1, .rd (.pointer (some ⟨mb, 7, none⟩)) 1, .rd (.int .i64 D) 1, .rd (.int .i64 j) 1, .rd (.int .i64 I) 1, .st 0, .rd (.tuple #[.int .i64 R, .nilIface]) 1, .rd (.int .i64 R) 1, .rd (.nilIface) 1, .rd (.int .i64 R) 1, .rd (.nilIface) 1] (fun cj => if cj = 0 then (.tuple #[.int .i64 R, .nilIface]) else undef) (fun s g p => Fr [] w p) (by kernel_rfl) (by rfl) (by rw [hsz]; rfl) (by kernel_rfl) (by kernel_rfl) (by decide) ?_ ⟨?_, ?_, ?_, ?_, ?_, ?_, ?_, ?_, ?_, ?_, ?_, ?_, ?_, ?_, ?_, ?_, trivial⟩ ?_
 ·intro w1 hw1
  exact ⟨fun _ => undef, hw1⟩
 ·refine ⟨⟨50, rfl⟩, .inl rfl, fun b p s g hs hlow hS h => ?_⟩
  have e0 := h.eo (by decide) h11
  refine gw0 rfl rfl ?_
  obtain ⟨ρ, hρ, ec⟩ := evx b
  rw [hρ] at e0 ⊢
  unfold execOp; simp [go_sem, e0, ec]
 ·refine ⟨⟨51, rfl⟩, .inl rfl, fun b p s g hs hlow hS h => ?_⟩
  have e0 := h.er 0 50 (by kernel_rfl) rfl rfl
  refine gw0 rfl rfl ?_
  obtain ⟨ρ, hρ, ec⟩ := evx b
  rw [hρ] at e0 ⊢
  unfold execOp; simp [go_sem, e0, ec]
 ·refine ⟨⟨52, rfl⟩, .inl rfl, fun b p s g hs hlow hS h => ?_⟩
  have e0 := h.er 1 51 (by kernel_rfl) rfl rfl
  refine gw0 rfl rfl ?_
  obtain ⟨ρ, hρ, ec⟩ := evx b
  rw [hρ] at e0 ⊢
  unfold execOp; simp [go_sem, e0, ec]
 ·refine ⟨⟨53, rfl⟩, .inl rfl, fun b p s g hs hlow hS h => ?_⟩
  have e0 := h.er 2 52 (by kernel_rfl) rfl rfl
  have hf := hS
  have c0 := (show p.cell? ⟨mb, 5, none⟩ = some (.pointer (some ⟨ob, 0, none⟩)) from cell_keep hf (by simp) h5)
  refine gw0 rfl rfl ?_
  obtain ⟨ρ, hρ, ec⟩ := evx b
  rw [hρ] at e0 ⊢
  unfold execOp; simp [go_sem, e0, ec, c0]
 ·refine ⟨⟨54, rfl⟩, .inl rfl, fun b p s g hs hlow hS h => ?_⟩
  have e0 := h.eo (by decide) h11
  refine gw0 rfl rfl ?_
  obtain ⟨ρ, hρ, ec⟩ := evx b
  rw [hρ] at e0 ⊢
  unfold execOp; simp [go_sem, e0, ec]
 ·refine ⟨⟨55, rfl⟩, .inl rfl, fun b p s g hs hlow hS h => ?_⟩
  have e0 := h.er 4 54 (by kernel_rfl) rfl rfl
  refine gw0 rfl rfl ?_
  obtain ⟨ρ, hρ, ec⟩ := evx b
  rw [hρ] at e0 ⊢
  unfold execOp; simp [go_sem, e0, ec]
 ·refine ⟨⟨56, rfl⟩, .inl rfl, fun b p s g hs hlow hS h => ?_⟩
  have e0 := h.er 5 55 (by kernel_rfl) rfl rfl
  refine gw0 rfl rfl ?_
  obtain ⟨ρ, hρ, ec⟩ := evx b
  rw [hρ] at e0 ⊢
  unfold execOp; simp [go_sem, e0, ec]
 ·refine ⟨⟨57, rfl⟩, .inl rfl, fun b p s g hs hlow hS h => ?_⟩
  have e0 := h.er 6 56 (by kernel_rfl) rfl rfl
  have hf := hS
  have c0 := (show p.cell? ⟨mb, 7, none⟩ = some (.int .i64 D) from cell_keep hf (by simp) h7)
  refine gw0 rfl rfl ?_
  obtain ⟨ρ, hρ, ec⟩ := evx b
  rw [hρ] at e0 ⊢
  unfold execOp; simp [go_sem, e0, ec, c0]
 ·refine ⟨⟨58, rfl⟩, .inl rfl, fun b p s g hs hlow hS h => ?_⟩
  have e0 := h.eo (by decide) h3
  refine gw0 rfl rfl ?_
  obtain ⟨ρ, hρ, ec⟩ := evx b
  rw [hρ] at e0 ⊢
  unfold execOp; simp [go_sem, e0, ec]
 ·refine ⟨⟨59, rfl⟩, .inl rfl, fun b p s g hs hlow hS h => ?_⟩
  have e0 := h.er 7 57 (by kernel_rfl) rfl rfl
  have e1 := h.er 8 58 (by kernel_rfl) rfl rfl
  refine gw0 rfl rfl ?_
  obtain ⟨ρ, hρ, ec⟩ := evx b
  rw [hρ] at e0 e1 ⊢
  unfold execOp; simp [go_sem, e0, e1, ec, hI]
 ·refine ⟨rfl, .inl rfl, fun b p g hS h => ?_⟩
  have e0 := h.er 3 53 (by kernel_rfl) rfl rfl
  have e1 := h.er 9 59 (by kernel_rfl) rfl rfl
  have hf := hS
  refine opV_func _ (by rfl) (wanted_none rfl) 65 _ _ rfl #[.pointer (some ⟨ob, 0, none⟩), .int .i64 I] (by simp only [List.map_toArray, List.map_cons, List.map_nil, e0, e1]) (by simp [go_sem]) ((hto p hf).mono ?_)
  rintro e p' ⟨rfl, hf'⟩
  exact ⟨_, rfl, hf.trans hf', .inr rfl⟩
 ·refine ⟨⟨49, rfl⟩, .inl rfl, fun b p s g hs hlow hS h => ?_⟩
  have e0 := (show b.eval (.tmp 60) = .tuple #[.int .i64 R, .nilIface] from h.st 10 _ 60 (by kernel_rfl) rfl rfl)
  refine gw0 rfl rfl ?_
  obtain ⟨ρ, hρ, ec⟩ := evx b
  rw [hρ] at e0 ⊢
  unfold execOp; simp [go_sem, e0, ec]
 ·refine ⟨⟨61, rfl⟩, .inl rfl, fun b p s g hs hlow hS h => ?_⟩
  have e0 := h.er 11 49 (by kernel_rfl) rfl rfl
  refine gw0 rfl rfl ?_
  obtain ⟨ρ, hρ, ec⟩ := evx b
  rw [hρ] at e0 ⊢
  unfold execOp; simp [go_sem, e0, ec]
 ·refine ⟨⟨62, rfl⟩, .inl rfl, fun b p s g hs hlow hS h => ?_⟩
  have e0 := h.er 11 49 (by kernel_rfl) rfl rfl
  refine gw0 rfl rfl ?_
  obtain ⟨ρ, hρ, ec⟩ := evx b
  rw [hρ] at e0 ⊢
  unfold execOp; simp [go_sem, e0, ec]
 ·refine ⟨⟨14, rfl⟩, .inl rfl, fun b p s g hs hlow hS h => ?_⟩
  have e0 := h.er 12 61 (by kernel_rfl) rfl rfl
  refine gw0 rfl rfl ?_
  obtain ⟨ρ, hρ, ec⟩ := evx b
  rw [hρ] at e0 ⊢
  unfold execOp; simp [go_sem, e0, ec]
 ·refine ⟨⟨12, rfl⟩, .inl rfl, fun b p s g hs hlow hS h => ?_⟩
  have e0 := h.er 13 62 (by kernel_rfl) rfl rfl
  refine gw0 rfl rfl ?_
  obtain ⟨ρ, hρ, ec⟩ := evx b
  rw [hρ] at e0 ⊢
  unfold execOp; simp [go_sem, e0, ec]
 ·intro b p h1 h2 h3 h4 h5
  obtain ⟨g, h4, h6⟩ := h4
  have r14 : slot b 14 = .int .i64 R := h5 14 (.int .i64 R) _ 14 rfl rfl
  have r12 : slot b 12 = .nilIface := h5 15 (.nilIface) _ 12 rfl rfl
  exact hQ b p h1 (h2.trans hsz) (fun s hs => h3 s (fun hm => hs (by simpa using hm))) r14 r12 h4
theorem sdSentinel_any (E : Nat -> Addr) (B : Nat) (w0 : World) (mv : Value) (m : List UInt8) (n j : Int) (p : Par) (hE : Errs all20 E B w0) (hS : SG w0) (hB : Bs (fun b => w0.heap.size <= b) w0 mv m) :
  Calls Tryz.prog 21 #[mv, .int .i64 n, .agg #[.int .i64 p.size, .int .i64 p.sent, .int .i64 p.spots, .int .i64 p.per, .int .i64 p.pat, .int .i64 p.ret], .int .i64 j] w0 fun e w' => (sdE p m n = 0 -> (0 <= j /\ j < p.sent) -> ∃ u, e = .returned (.tuple #[.int .i64 ((placeN (subL m nPlace n) (blk p.size + p.sent).toNat ((blk p.size).toNat + j.toNat) : Nat) : Int), u, .nilIface]) /\ OwnB 5 w0.heap.size w' u (tgdL (subL m nTag n) ((placeN (subL m nPlace n) (blk p.size + p.sent).toNat ((blk p.size).toNat + j.toNat) : Nat) : Int) (strL (subL m nSent n) j))) /\ (sdE p m n = 0 -> ¬ (0 <= j /\ j < p.sent) -> e = .returned (.tuple #[.int .i64 0, .slice none 0 0, errv E 18])) /\ (sdE p m n ≠ 0 -> ∃ ev, e = .returned (.tuple #[.int .i64 0, .slice none 0 0, ev]) /\ ErrV E w' (sdE p m n) ev) /\ Fr [] w0 w' := by
 obtain ⟨ma, mc, rfl, -, -, -⟩ := id hB
 obtain ⟨mn, hmn⟩ := exq (m.length)
 rw [hmn] at hB ⊢
 have hN9 : sdE p m n = 0 -> (0 <= blk p.size /\ blk p.size <= 510) /\ 0 <= p.sent /\ p.sent <= 8 := fun h => by
  have hc : chk p = 0 := by
   by_cases hc : chk p = 0
   ·exact hc
   ·unfold sdE at h
    rw [if_pos hc] at h
    exact h
  have ho := chk_nil hc
  exact ⟨blk_le ho.1, ho.2⟩
 obtain ⟨NN, hNN⟩ := exq ((blk p.size + p.sent).toNat)
 obtain ⟨DD, hDD⟩ := exq ((blk p.size).toNat)
 obtain ⟨jn, hjn⟩ := exq (j.toNat)
 rw [hNN, hDD, hjn]
 obtain ⟨Z, hZ⟩ := exq (w0.heap.size)
 have F1 : Fr [] w0 (w0.alloc (.cells #[.int .i64 p.size, .int .i64 p.sent, .int .i64 p.spots, .int .i64 p.per, .int .i64 p.pat, .int .i64 p.ret] 24)) := Fr.alloc _ _
 have HC := Hdq (sdof_any E B (w0.alloc (.cells #[.int .i64 p.size, .int .i64 p.sent, .int .i64 p.spots, .int .i64 p.per, .int .i64 p.pat, .int .i64 p.ret] 24)) (.slice ma mn mc) m n p (hE.keep0 F1) (hS.keep F1) (hB.mono (A' := fun b => (w0.alloc (.cells #[.int .i64 p.size, .int .i64 p.sent, .int .i64 p.spots, .int .i64 p.per, .int .i64 p.pat, .int .i64 p.ret] 24)).heap.size <= b) F1 (by simp) (fun b hb => .inl (by have := F1.size; omega))))
 have HA := Hdq (show At (w0.alloc (.cells #[.int .i64 p.size, .int .i64 p.sent, .int .i64 p.spots, .int .i64 p.per, .int .i64 p.pat, .int .i64 p.ret] 24)) Z (.cells #[.int .i64 p.size, .int .i64 p.sent, .int .i64 p.spots, .int .i64 p.per, .int .i64 p.pat, .int .i64 p.ret] 24) from At.new hZ.symm)
 have HF := Hdq F1
 have HE := Hdq (fun wi (h : Fr [] w0 wi) => hE.keep0 h)
 have HS := Hdq (fun wi (h : Fr [] w0 wi) => hS.keep h)
 have HN9 := Hdq hN9
 have HZ := Hdq hZ
 have HNN := Hdq (And.intro hNN (And.intro hDD hjn))
 clear hmn hE hS hB F1 hN9 hNN hDD hjn
 go_enter Tryz.func21, Tryz.ntmps21
 go_wp2_with (go_at_call 64; fail)
 clear hZ
 refine HC.out.mono ?_
 rintro e w2 ⟨h1, h2, hf⟩
 replace HA := Hdq (HA.out.keep0 hf)
 have HF2 := Hdq (HF.out.trans hf)
 have cs : w2.cell? ⟨Z, 1, none⟩ = some (.int .i64 p.sent) := HA.out.cell 1
 by_cases hk : sdE p m n = 0
 ·obtain ⟨mb, rfl, hm⟩ := h1 hk
  have HK := Hdq hk
  have HM := Hdq hm
  have hn9 := HN9.out hk
  clear h1 h2 hk hm hf HC HF
  by_cases hj : 0 <= j /\ j < p.sent
  ·have HJ := Hdq hj
   have hj0 : ¬ j < 0 := by omega
   have hj1 : ¬ p.sent <= j := by omega
   obtain ⟨u0, u1, u2, u3, u4, ob, kb, okb, a1, a2, a3, a4, a5, a6⟩ := HM.out
   obtain ⟨ka, kc, rfl, -, -, -⟩ := id a6
   rw [subL_len] at a1 a6
   obtain ⟨hNN, hDD, hjn⟩ := HNN.out
   obtain rfl : j = (jn : Int) := by omega
   rw [hNN] at a1 a2
   rw [hDD] at a1
   have HNV := Hdq (show NN <= 1048576 /\ DD + jn < NN by omega)
   have hDJ : IntKind.i64.wrap ((DD : Int) + (jn : Int)) = ((DD + jn : Nat) : Int) := by rw [IntKind.wrap_i64]; omega
   have c2 : w2.cell? ⟨mb, 2, none⟩ = some (.slice ka 32 kc) := a1.cell 2
   have HH := Hdq (And.intro a1 (And.intro a2 (And.intro a3 (And.intro a6 hDJ))))
   have HMM := Hdq (show MkAt w2 mb NN DD m n from by have h := HM.out; rw [hNN, hDD] at h; exact h)
   clear hj hn9 a1 a2 a3 a4 a5 a6 hNN hDD hDJ hjn HN9 HM HNN
   go_wp2_with (go_at_call 67; fail)
   clear cs c2
   refine (Sblock_any E B w2 (.slice ka 32 kc) (subL m nSent n) (jn : Int) (HE.out _ HF2.out) (bs_low HH.out.2.2.2.1) (by rw [subL_len]; decide) (HS.out _ HF2.out)).mono ?_
   rintro e w3 ⟨u, rfl, hu, -, hf⟩
   have hc0 : cntBad (jn : Int) = 0 := cntBad_ok (by have := HJ.out; have := HNV.out; omega)
   have hub := hu hc0
   obtain ⟨ua, un, uc, rfl⟩ := ownB_ps hub
   rw [hc0, errv_zero]
   have HU := Hdq (hub.bs (A := fun _ => False) (fun _ h => h.elim))
   have HF3 := Hdq (HF2.out.trans hf)
   have HM3 := Hdq (HMM.out.keep hf)
   have HA3 := Hdq (HH.out.1.keep0 hf)
   have HO3 := Hdq (And.intro (HH.out.2.1.keep hf) (HH.out.2.2.1.keep hf))
   clear hu hub hf hc0 HF2 HMM
   go_wp2
   refine ss9 w3 _ rfl (jn : Int) (DD : Int) ((DD + jn : Nat) : Int) ((placeN (subL m nPlace n) NN (DD + jn) : Nat) : Int) mb ob (HA3.out.cell 5) (HA3.out.cell 7) HH.out.2.2.2.2 (fun v hv => sto_ok v ob okb NN (DD + jn) (subL m nPlace n) (HO3.out.1.keep hv) (HO3.out.2.keep hv) (HS.out _ (HF3.out.trans hv)) HNV.out.1 HNV.out.2) rfl rfl _ ?_
   intro b v hd hs ho r14 r12 hf
   obtain ⟨R, hR⟩ := exq (placeN (subL m nPlace n) NN (DD + jn))
   have HRR := Hdq hR
   rw [hR] at r14
   rw [frame69 b hs hd, r14, r12, show slot b 11 = .pointer (some ⟨mb, 0, none⟩) from ho 11 (by decide), show slot b 13 = .slice ua un uc from ho 13 (by decide)]
   have HF4 := Hdq (HF3.out.trans hf)
   have HM4 := Hdq (HM3.out.keep hf)
   have HU4 := Hdq (HU.out.keep hf (by simp))
   clear hf ho hs hd r14 r12 hR
   go_wp2_with (go_at_call 68; fail)
   refine (sdtag_any v mb NN DD m n (.slice ua un uc) (strL (subL m nSent n) (jn : Int)) (R : Int) HM4.out HU4.out (HS.out _ HF4.out) (by rw [strL_len]; decide)).mono ?_
   rintro e w5 ⟨z, rfl, hz, hf⟩
   have HZ5 := Hdq (hz.base (base' := w0.heap.size) HF4.out.size)
   have HF5 := Hdq (HF4.out.trans hf)
   clear hz hf
   go_wp2
   refine bodyPost_ret (results_tmp3 rfl _ _ _) rfl ?_
   exact ⟨fun _ _ => by rw [HRR.out]; exact ⟨_, rfl, HZ5.out⟩, fun _ h => absurd HJ.out h, fun h => absurd HK.out h, HF5.out⟩
  ·have HJ := Hdq hj
   have he := (HE.out _ HF2.out).cell 18 (by decide)
   simp only [gOf, List.getD_eq_getElem?_getD, List.getElem?_cons_zero, List.getElem?_cons_succ, Option.getD_some] at he
   by_cases hj0 : j < 0
   ·clear hj hn9 HM HN9
    go_wp2
    go_quiet (fail)
    go_wp2
    refine bodyPost_ret (results_tmp3 rfl _ _ _) rfl ?_
    exact ⟨fun _ h => absurd h HJ.out, fun _ _ => rfl, fun h => absurd HK.out h, HF2.out.trans ((Dr.refl _).drewN _).fr⟩
   ·have hj1 : p.sent <= j := by omega
    clear hj hn9 HM HN9
    go_wp2
    go_quiet (fail)
    go_wp2
    refine bodyPost_ret (results_tmp3 rfl _ _ _) rfl ?_
    exact ⟨fun _ h => absurd h HJ.out, fun _ _ => rfl, fun h => absurd HK.out h, HF2.out.trans ((Dr.refl _).drewN _).fr⟩
 ·obtain ⟨ev, rfl, hv⟩ := h2 hk
  obtain ⟨t, a, rfl⟩ := hv.some_of hk
  have HV := Hdq hv
  have HK := Hdq hk
  clear h1 h2 hf hk hv HC HF cs
  go_wp2
  refine bodyPost_ret (results_tmp3 rfl _ _ _) rfl ?_
  exact ⟨fun h => absurd h HK.out, fun h => absurd h HK.out, fun _ => ⟨_, rfl, HV.out⟩, HF2.out⟩
theorem sdPlace_any (E : Nat -> Addr) (B : Nat) (w0 : World) (mv : Value) (m : List UInt8) (n x : Int) (p : Par) (hE : Errs all20 E B w0) (hS : SG w0) (hB : Bs (fun b => w0.heap.size <= b) w0 mv m) :
  Calls Tryz.prog 19 #[mv, .int .i64 n, .agg #[.int .i64 p.size, .int .i64 p.sent, .int .i64 p.spots, .int .i64 p.per, .int .i64 p.pat, .int .i64 p.ret], .int .i64 x] w0 fun e w' => (sdE p m n = 0 -> (0 <= x /\ x < (((blk p.size + p.sent).toNat : Nat) : Int)) -> e = .returned (.tuple #[.int .i64 ((placeN (subL m nPlace n) (blk p.size + p.sent).toNat x.toNat : Nat) : Int), .nilIface])) /\ (sdE p m n = 0 -> ¬ (0 <= x /\ x < (((blk p.size + p.sent).toNat : Nat) : Int)) -> e = .returned (.tuple #[.int .i64 0, errv E 1])) /\ (sdE p m n ≠ 0 -> ∃ ev, e = .returned (.tuple #[.int .i64 0, ev]) /\ ErrV E w' (sdE p m n) ev) /\ Fr [] w0 w' := by
 obtain ⟨ma, mc, rfl, -, -, -⟩ := id hB
 obtain ⟨mn, hmn⟩ := exq (m.length)
 rw [hmn] at hB ⊢
 obtain ⟨NN, hNN⟩ := exq ((blk p.size + p.sent).toNat)
 rw [hNN]
 have hN9 : sdE p m n = 0 -> NN <= 1000 := fun h => by
  have hc : chk p = 0 := by
   by_cases hc : chk p = 0
   ·exact hc
   ·unfold sdE at h
    rw [if_pos hc] at h
    exact h
  have ho := chk_nil hc
  have hb := blk_le ho.1
  have h2 : 0 <= p.sent /\ p.sent <= 8 := ho.2
  omega
 have F1 : Fr [] w0 (w0.alloc (.cells #[.int .i64 p.size, .int .i64 p.sent, .int .i64 p.spots, .int .i64 p.per, .int .i64 p.pat, .int .i64 p.ret] 24)) := Fr.alloc _ _
 have HC := Hdq (sdof_any E B (w0.alloc (.cells #[.int .i64 p.size, .int .i64 p.sent, .int .i64 p.spots, .int .i64 p.per, .int .i64 p.pat, .int .i64 p.ret] 24)) (.slice ma mn mc) m n p (hE.keep0 F1) (hS.keep F1) (hB.mono (A' := fun b => (w0.alloc (.cells #[.int .i64 p.size, .int .i64 p.sent, .int .i64 p.spots, .int .i64 p.per, .int .i64 p.pat, .int .i64 p.ret] 24)).heap.size <= b) F1 (by simp) (fun b hb => .inl (by have := F1.size; omega))))
 have HF := Hdq F1
 have HE := Hdq (hE.keep0 F1)
 have HS := Hdq (hS.keep F1)
 have HN := Hdq hNN
 have HN9 := Hdq hN9
 clear hmn hE hS hB F1 hNN hN9
 go_enter Tryz.func19, Tryz.ntmps19
 go_wp2_with (go_at_call 64; fail)
 refine HC.out.mono ?_
 rintro e w2 ⟨h1, h2, hf⟩
 have HF2 := Hdq (HF.out.trans hf)
 by_cases hk : sdE p m n = 0
 ·obtain ⟨mb, rfl, hm⟩ := h1 hk
  rw [HN.out] at hm
  obtain ⟨c, ob, okb, a1, a2, a3, a4⟩ := hm.laid
  have c5 : w2.cell? ⟨mb, 5, none⟩ = some (.pointer (some ⟨ob, 0, none⟩)) := (a1.cell 5).trans a2
  have HO := Hdq (And.intro a3 (And.intro a4 (And.intro (HS.out.keep hf) (HE.out.keep0 hf))))
  have HK := Hdq hk
  have hn9 := HN9.out hk
  clear h1 h2 hk hm a1 a2 a3 a4 hf HC HF
  by_cases hx : 0 <= x /\ x < (NN : Int)
  ·obtain ⟨y, rfl⟩ : ∃ y : Nat, x = (y : Int) := ⟨x.toNat, by omega⟩
   have hy : y < NN := by omega
   go_wp2_with (go_at_call 65; fail)
   refine (sto_ok w2 ob okb NN y (subL m nPlace n) HO.out.1 HO.out.2.1 HO.out.2.2.1 (by omega) hy).mono ?_
   rintro e w3 ⟨rfl, hf⟩
   have HF3 := Hdq (HF2.out.trans hf)
   obtain ⟨r, hr⟩ := exq (placeN (subL m nPlace n) NN y)
   have HR := Hdq hr
   rw [hr]
   clear hf c5 hr
   go_wp2
   go_ret2
   exact ⟨fun _ _ => by rw [Int.toNat_natCast, HR.out]; rfl, fun _ h => absurd hx h, fun h => absurd HK.out h, HF3.out⟩
  ·go_wp2_with (go_at_call 65; fail)
   refine (sto_bad E B w2 ob okb NN (bitsN NN) x HO.out.2.2.2 HO.out.1 (by omega)).mono ?_
   rintro e w3 ⟨rfl, hf⟩
   have HF3 := Hdq (HF2.out.trans hf)
   rw [errv_pos E 1 (by decide)]
   clear hf c5
   go_wp2
   go_ret2
   exact ⟨fun _ h => absurd h hx, fun _ _ => rfl, fun h => absurd HK.out h, HF3.out⟩
 ·obtain ⟨ev, rfl, hv⟩ := h2 hk
  obtain ⟨t, a, rfl⟩ := hv.some_of hk
  have HV := Hdq hv
  have HK := Hdq hk
  clear h1 h2 hf hk hv HC HF
  go_wp2
  go_ret2
  exact ⟨fun h => absurd h HK.out, fun h => absurd h HK.out, fun _ => ⟨_, rfl, HV.out⟩, HF2.out⟩
theorem sdBack_any (E : Nat -> Addr) (B : Nat) (w0 : World) (mv : Value) (m : List UInt8) (n x : Int) (p : Par) (hE : Errs all20 E B w0) (hS : SG w0) (hB : Bs (fun b => w0.heap.size <= b) w0 mv m) :
  Calls Tryz.prog 20 #[mv, .int .i64 n, .agg #[.int .i64 p.size, .int .i64 p.sent, .int .i64 p.spots, .int .i64 p.per, .int .i64 p.pat, .int .i64 p.ret], .int .i64 x] w0 fun e w' => (sdE p m n = 0 -> (0 <= x /\ x < (((blk p.size + p.sent).toNat : Nat) : Int)) -> e = .returned (.tuple #[.int .i64 ((numN (subL m nPlace n) (blk p.size + p.sent).toNat x.toNat : Nat) : Int), .nilIface])) /\ (sdE p m n = 0 -> ¬ (0 <= x /\ x < (((blk p.size + p.sent).toNat : Nat) : Int)) -> e = .returned (.tuple #[.int .i64 0, errv E 1])) /\ (sdE p m n ≠ 0 -> ∃ ev, e = .returned (.tuple #[.int .i64 0, ev]) /\ ErrV E w' (sdE p m n) ev) /\ Fr [] w0 w' := by
 obtain ⟨ma, mc, rfl, -, -, -⟩ := id hB
 obtain ⟨mn, hmn⟩ := exq (m.length)
 rw [hmn] at hB ⊢
 obtain ⟨NN, hNN⟩ := exq ((blk p.size + p.sent).toNat)
 rw [hNN]
 have hN9 : sdE p m n = 0 -> NN <= 1000 := fun h => by
  have hc : chk p = 0 := by
   by_cases hc : chk p = 0
   ·exact hc
   ·unfold sdE at h
    rw [if_pos hc] at h
    exact h
  have ho := chk_nil hc
  have hb := blk_le ho.1
  have h2 : 0 <= p.sent /\ p.sent <= 8 := ho.2
  omega
 have F1 : Fr [] w0 (w0.alloc (.cells #[.int .i64 p.size, .int .i64 p.sent, .int .i64 p.spots, .int .i64 p.per, .int .i64 p.pat, .int .i64 p.ret] 24)) := Fr.alloc _ _
 have HC := Hdq (sdof_any E B (w0.alloc (.cells #[.int .i64 p.size, .int .i64 p.sent, .int .i64 p.spots, .int .i64 p.per, .int .i64 p.pat, .int .i64 p.ret] 24)) (.slice ma mn mc) m n p (hE.keep0 F1) (hS.keep F1) (hB.mono (A' := fun b => (w0.alloc (.cells #[.int .i64 p.size, .int .i64 p.sent, .int .i64 p.spots, .int .i64 p.per, .int .i64 p.pat, .int .i64 p.ret] 24)).heap.size <= b) F1 (by simp) (fun b hb => .inl (by have := F1.size; omega))))
 have HF := Hdq F1
 have HE := Hdq (hE.keep0 F1)
 have HS := Hdq (hS.keep F1)
 have HN := Hdq hNN
 have HN9 := Hdq hN9
 clear hmn hE hS hB F1 hNN hN9
 go_enter Tryz.func20, Tryz.ntmps20
 go_wp2_with (go_at_call 64; fail)
 refine HC.out.mono ?_
 rintro e w2 ⟨h1, h2, hf⟩
 have HF2 := Hdq (HF.out.trans hf)
 by_cases hk : sdE p m n = 0
 ·obtain ⟨mb, rfl, hm⟩ := h1 hk
  rw [HN.out] at hm
  obtain ⟨c, ob, okb, a1, a2, a3, a4⟩ := hm.laid
  have c5 : w2.cell? ⟨mb, 5, none⟩ = some (.pointer (some ⟨ob, 0, none⟩)) := (a1.cell 5).trans a2
  have HO := Hdq (And.intro a3 (And.intro a4 (And.intro (HS.out.keep hf) (HE.out.keep0 hf))))
  have HK := Hdq hk
  have hn9 := HN9.out hk
  clear h1 h2 hk hm a1 a2 a3 a4 hf HC HF
  by_cases hx : 0 <= x /\ x < (NN : Int)
  ·obtain ⟨y, rfl⟩ : ∃ y : Nat, x = (y : Int) := ⟨x.toNat, by omega⟩
   have hy : y < NN := by omega
   go_wp2_with (go_at_call 66; fail)
   refine (sfrom_ok w2 ob okb NN y (subL m nPlace n) HO.out.1 HO.out.2.1 HO.out.2.2.1 (by omega) hy).mono ?_
   rintro e w3 ⟨rfl, hf⟩
   have HF3 := Hdq (HF2.out.trans hf)
   obtain ⟨r, hr⟩ := exq (numN (subL m nPlace n) NN y)
   have HR := Hdq hr
   rw [hr]
   clear hf c5 hr
   go_wp2
   go_ret2
   exact ⟨fun _ _ => by rw [Int.toNat_natCast, HR.out]; rfl, fun _ h => absurd hx h, fun h => absurd HK.out h, HF3.out⟩
  ·go_wp2_with (go_at_call 66; fail)
   refine (sfrom_bad E B w2 ob okb NN (bitsN NN) x HO.out.2.2.2 HO.out.1 (by omega)).mono ?_
   rintro e w3 ⟨rfl, hf⟩
   have HF3 := Hdq (HF2.out.trans hf)
   rw [errv_pos E 1 (by decide)]
   clear hf c5
   go_wp2
   go_ret2
   exact ⟨fun _ h => absurd h hx, fun _ _ => rfl, fun h => absurd HK.out h, HF3.out⟩
 ·obtain ⟨ev, rfl, hv⟩ := h2 hk
  obtain ⟨t, a, rfl⟩ := hv.some_of hk
  have HV := Hdq hv
  have HK := Hdq hk
  clear h1 h2 hf hk hv HC HF
  go_wp2
  go_ret2
  exact ⟨fun h => absurd h HK.out, fun h => absurd h HK.out, fun _ => ⟨_, rfl, HV.out⟩, HF2.out⟩
end Go.Proofs.YtnafknkchbfpaaaGreatDoor
