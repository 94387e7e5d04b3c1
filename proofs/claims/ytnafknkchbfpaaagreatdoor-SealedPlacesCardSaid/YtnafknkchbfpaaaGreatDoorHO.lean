import Derived.Test.YtnafknkchbfpaaaGreatDoorHQ
import Derived.Test.YtnafknkchbfpaaaGreatDoorHR
import Derived.Test.YtnafknkchbfpaaaGreatDoorHP
import Derived.Test.YtnafknkchbfpaaaGreatDoorHM
import Derived.Test.YtnafknkchbfpaaaGreatDoorWrd
import Derived.Outline
import Derived.Maps.RangeWalk
import Derived.Test.YtnafknkchbfpaaaGreatDoorHS
set_option maxRecDepth 1000000
set_option maxHeartbeats 8000000
namespace Go.Proofs.YtnafknkchbfpaaaGreatDoor
open Go.RowKit Go.Bl
set_option linter.unusedVariables false
theorem placeC (E : Nat -> Addr) (B : Nat) (w0 : World) (mv : Value) (m : List UInt8) (n x : Int) (q : Par) (hE : Errs all20 E B w0) (hS : SG w0) (hB : Bs (fun b => w0.heap.size <= b) w0 mv m) (hk : sdE q m n = 0) :
  Calls Tryz.prog 19 #[mv, .int .i64 n, .agg #[.int .i64 q.size, .int .i64 q.sent, .int .i64 q.spots, .int .i64 q.per, .int .i64 q.pat, .int .i64 q.ret], .int .i64 x] w0 fun e w' => ∃ (A : Int) (ev : Value), e = .returned (.tuple #[.int .i64 A, ev]) /\ ((0 <= x /\ x < (((blk q.size + q.sent).toNat : Nat) : Int)) -> A = ((placeN (subL m nPlace n) (blk q.size + q.sent).toNat x.toNat : Nat) : Int) /\ ev = .nilIface) /\ (¬ (0 <= x /\ x < (((blk q.size + q.sent).toNat : Nat) : Int)) -> A = 0 /\ ev = errv E 1) /\ Fr [] w0 w' := by
 refine (sdPlace_any E B w0 mv m n x q hE hS hB).mono ?_
 rintro e w' ⟨h1, h2, -, hf⟩
 by_cases hx : 0 <= x /\ x < (((blk q.size + q.sent).toNat : Nat) : Int)
 ·exact ⟨_, _, h1 hk hx, fun _ => ⟨rfl, rfl⟩, fun h => absurd hx h, hf⟩
 ·exact ⟨_, _, h2 hk hx, fun h => absurd h hx, fun _ => ⟨rfl, rfl⟩, hf⟩
theorem backC (E : Nat -> Addr) (B : Nat) (w0 : World) (mv : Value) (m : List UInt8) (n x : Int) (q : Par) (hE : Errs all20 E B w0) (hS : SG w0) (hB : Bs (fun b => w0.heap.size <= b) w0 mv m) (hk : sdE q m n = 0) :
  Calls Tryz.prog 20 #[mv, .int .i64 n, .agg #[.int .i64 q.size, .int .i64 q.sent, .int .i64 q.spots, .int .i64 q.per, .int .i64 q.pat, .int .i64 q.ret], .int .i64 x] w0 fun e w' => ∃ (A : Int) (ev : Value), e = .returned (.tuple #[.int .i64 A, ev]) /\ ((0 <= x /\ x < (((blk q.size + q.sent).toNat : Nat) : Int)) -> A = ((numN (subL m nPlace n) (blk q.size + q.sent).toNat x.toNat : Nat) : Int) /\ ev = .nilIface) /\ (¬ (0 <= x /\ x < (((blk q.size + q.sent).toNat : Nat) : Int)) -> A = 0 /\ ev = errv E 1) /\ Fr [] w0 w' := by
 refine (sdBack_any E B w0 mv m n x q hE hS hB).mono ?_
 rintro e w' ⟨h1, h2, -, hf⟩
 by_cases hx : 0 <= x /\ x < (((blk q.size + q.sent).toNat : Nat) : Int)
 ·exact ⟨_, _, h1 hk hx, fun _ => ⟨rfl, rfl⟩, fun h => absurd hx h, hf⟩
 ·exact ⟨_, _, h2 hk hx, fun h => absurd h hx, fun _ => ⟨rfl, rfl⟩, hf⟩
theorem sentC (E : Nat -> Addr) (B : Nat) (w0 : World) (mv : Value) (m : List UInt8) (n j : Int) (q : Par) (hE : Errs all20 E B w0) (hS : SG w0) (hB : Bs (fun b => w0.heap.size <= b) w0 mv m) (hk : sdE q m n = 0) :
  Calls Tryz.prog 21 #[mv, .int .i64 n, .agg #[.int .i64 q.size, .int .i64 q.sent, .int .i64 q.spots, .int .i64 q.per, .int .i64 q.pat, .int .i64 q.ret], .int .i64 j] w0 fun e w' => ∃ (A : Int) (ua : Option Addr) (un uc : Nat) (ev : Value), e = .returned (.tuple #[.int .i64 A, .slice ua un uc, ev]) /\ ((0 <= j /\ j < q.sent) -> A = ((placeN (subL m nPlace n) (blk q.size + q.sent).toNat ((blk q.size).toNat + j.toNat) : Nat) : Int) /\ ev = .nilIface /\ OwnB 5 w0.heap.size w' (.slice ua un uc) (tgdL (subL m nTag n) ((placeN (subL m nPlace n) (blk q.size + q.sent).toNat ((blk q.size).toNat + j.toNat) : Nat) : Int) (strL (subL m nSent n) j))) /\ (¬ (0 <= j /\ j < q.sent) -> A = 0 /\ un = 0 /\ ev = errv E 18) /\ Fr [] w0 w' := by
 refine (sdSentinel_any E B w0 mv m n j q hE hS hB).mono ?_
 rintro e w' ⟨h1, h2, -, hf⟩
 by_cases hx : 0 <= j /\ j < q.sent
 ·obtain ⟨u, rfl, hu⟩ := h1 hk hx
  obtain ⟨ua, un, uc, rfl⟩ := ownB_ps hu
  exact ⟨_, ua, un, uc, _, rfl, fun _ => ⟨rfl, rfl, hu⟩, fun h => absurd hx h, hf⟩
 ·exact ⟨_, _, _, _, _, h2 hk hx, fun h => absurd h hx, fun _ => ⟨rfl, rfl, rfl⟩, hf⟩
theorem sdE_zero {q : Par} {m : List UInt8} {n : Int} (h : sdE q m n = 0) : chk q = 0 /\ keyBad m n = 0 := by
 unfold sdE at h
 by_cases hc : chk q = 0
 ·rw [if_neg (by simpa using hc)] at h; exact ⟨hc, h⟩
 ·rw [if_pos hc] at h; exact absurd h hc
theorem chk_le (q : Par) : chk q <= 20 := by unfold chk; split <;> (try split) <;> (try split) <;> decide
theorem sdE_le {q : Par} {m : List UInt8} {n : Int} : sdE q m n <= 20 := by
 unfold sdE
 split
 ·exact chk_le q
 ·exact keyBad_le m n
theorem rready_bad (w0 : World) (mv : Value) (m : List UInt8) (n : Int) (q : Par) (hB : Bs (fun b => w0.heap.size <= b) w0 mv m) (hR : RG w0) (hk : sdE q m n ≠ 0) :
  Calls Tryz.prog 18 #[mv, .int .i64 n, .agg #[.int .i64 q.size, .int .i64 q.sent, .int .i64 q.spots, .int .i64 q.per, .int .i64 q.pat, .int .i64 q.ret]] w0 fun e w' => e = .returned (.tuple #[.agg n5q, .int .i64 (sdE q m n : Nat)]) /\ Fr [] w0 w' := by
 by_cases hc : chk q = 0
 ·have e : sdE q m n = keyBad m n := if_neg (by simpa using hc)
  rw [e] at hk ⊢
  exact rready_key w0 mv m n q hB hR hc hk
 ·have e : sdE q m n = chk q := if_pos hc
  rw [e]
  exact rready_par w0 mv m n q hB hR hc
theorem splaces_long (E : Nat -> Addr) (B : Nat) (w0 : World) (mv fv : Value) (m f : List UInt8) (n x y : Int) (q : Par) (hE : Errs all20 E B w0) (hS : SG w0) (hR : RG w0) (hM : Bs (fun _ => False) w0 mv m) (hF : Bs (fun _ => False) w0 fv f) (hl : longB m.length f.length q.size = true) :
  Calls Tryz.prog 4 #[madeV mv n fv q, .int .i64 x, .int .i64 y] w0 fun e w' => e = .returned (.bool true) /\ Fr [] w0 w' := by
 obtain ⟨ma, mc, rfl, -, -, -⟩ := id hM
 obtain ⟨fa, fc, rfl, -, -, -⟩ := id hF
 obtain ⟨mn, hmn⟩ := exq (m.length)
 obtain ⟨fn, hfn⟩ := exq (f.length)
 rw [hmn, hfn] at hl
 rw [hmn] at hM ⊢
 rw [hfn]
 unfold madeV
 obtain ⟨Z, hZ⟩ := exq (w0.heap.size)
 obtain ⟨w1, hw1⟩ := exq (w0.alloc (.cells #[.slice ma mn mc, .int .i64 n, .slice fa fn fc, .int .i64 q.size, .int .i64 q.sent, .int .i64 q.spots, .int .i64 q.per, .int .i64 q.pat, .int .i64 q.ret] 26))
 have F1 : Fr [] w0 w1 := by rw [<- hw1]; exact Fr.alloc _ _
 have HB := Hdq (show At w1 Z (.cells #[.slice ma mn mc, .int .i64 n, .slice fa fn fc, .int .i64 q.size, .int .i64 q.sent, .int .i64 q.spots, .int .i64 q.per, .int .i64 q.pat, .int .i64 q.ret] 26) by rw [<- hw1]; exact At.new hZ.symm)
 have HF := Hdq F1
 have HM := Hdq (fun wi (h : Fr [] w0 wi) => show Bs (fun b => wi.heap.size <= b) wi (.slice ma mn mc) m from bs_low (hM.keep h (by simp)))
 have HE := Hdq (fun wi (h : Fr [] w0 wi) => hE.keep0 h)
 have HS := Hdq (fun wi (h : Fr [] w0 wi) => hS.keep h)
 have HR := Hdq (fun wi (h : Fr [] w0 wi) => hR.keep h)
 have HMN := Hdq hmn
 have HL := Hdq hl
 clear hE hS hR hM hF F1 hmn hfn hl
 go_enter Tryz.func4, Tryz.ntmps4
 go_wp2_with (go_at_call 9; fail)
 clear hw1
 refine (alive16_ok E B w1 (HE.out _ HF.out) (HS.out _ HF.out)).mono ?_
 rintro e w2 ⟨rfl, hf⟩
 replace HF := Hdq (HF.out.trans hf)
 replace HB := Hdq (HB.out.keep0 hf)
 clear hf hZ
 go_wp2_with (first | (refine wpl_load_k (.tmp 3) rfl rfl Z 0 [.slice ma mn mc, .int .i64 n, .slice fa fn fc, .int .i64 q.size, .int .i64 q.sent, .int .i64 q.spots, .int .i64 q.per, .int .i64 q.pat, .int .i64 q.ret] rfl (range_of HB.out) Tryz.underlying26 rfl (by kernel_rfl) ?_) | (go_at_call 10; fail))
 refine (long16_any w2 ma fa mn mc fn fc n q).mono ?_
 rintro e w3 ⟨rfl, hf⟩
 replace HF := Hdq (HF.out.trans hf)
 replace HB := Hdq (HB.out.keep0 hf)
 clear hf
 rw [HL.out]
 go_wp2
 go_ret
 exact ⟨rfl, HF.out⟩
theorem splaces_bad (E : Nat -> Addr) (B : Nat) (w0 : World) (mv fv : Value) (m f : List UInt8) (n x y : Int) (q : Par) (hE : Errs all20 E B w0) (hS : SG w0) (hR : RG w0) (hM : Bs (fun _ => False) w0 mv m) (hF : Bs (fun _ => False) w0 fv f) (hl : longB m.length f.length q.size = false) (hk : sdE q m n ≠ 0) :
  Calls Tryz.prog 4 #[madeV mv n fv q, .int .i64 x, .int .i64 y] w0 fun e w' => e = .returned (.bool true) /\ Fr [] w0 w' := by
 obtain ⟨ma, mc, rfl, -, -, -⟩ := id hM
 obtain ⟨fa, fc, rfl, -, -, -⟩ := id hF
 obtain ⟨mn, hmn⟩ := exq (m.length)
 obtain ⟨fn, hfn⟩ := exq (f.length)
 rw [hmn, hfn] at hl
 rw [hmn] at hM ⊢
 rw [hfn]
 unfold madeV
 obtain ⟨Z, hZ⟩ := exq (w0.heap.size)
 obtain ⟨w1, hw1⟩ := exq (w0.alloc (.cells #[.slice ma mn mc, .int .i64 n, .slice fa fn fc, .int .i64 q.size, .int .i64 q.sent, .int .i64 q.spots, .int .i64 q.per, .int .i64 q.pat, .int .i64 q.ret] 26))
 have F1 : Fr [] w0 w1 := by rw [<- hw1]; exact Fr.alloc _ _
 have HB := Hdq (show At w1 Z (.cells #[.slice ma mn mc, .int .i64 n, .slice fa fn fc, .int .i64 q.size, .int .i64 q.sent, .int .i64 q.spots, .int .i64 q.per, .int .i64 q.pat, .int .i64 q.ret] 26) by rw [<- hw1]; exact At.new hZ.symm)
 have HF := Hdq F1
 have HM := Hdq (fun wi (h : Fr [] w0 wi) => show Bs (fun b => wi.heap.size <= b) wi (.slice ma mn mc) m from bs_low (hM.keep h (by simp)))
 have HE := Hdq (fun wi (h : Fr [] w0 wi) => hE.keep0 h)
 have HS := Hdq (fun wi (h : Fr [] w0 wi) => hS.keep h)
 have HR := Hdq (fun wi (h : Fr [] w0 wi) => hR.keep h)
 have HMN := Hdq hmn
 have HL := Hdq hl
 have HKK := Hdq hk
 clear hk
 clear hE hS hR hM hF F1 hmn hfn hl
 go_enter Tryz.func4, Tryz.ntmps4
 go_wp2_with (go_at_call 9; fail)
 clear hw1
 refine (alive16_ok E B w1 (HE.out _ HF.out) (HS.out _ HF.out)).mono ?_
 rintro e w2 ⟨rfl, hf⟩
 replace HF := Hdq (HF.out.trans hf)
 replace HB := Hdq (HB.out.keep0 hf)
 clear hf hZ
 go_wp2_with (first | (refine wpl_load_k (.tmp 3) rfl rfl Z 0 [.slice ma mn mc, .int .i64 n, .slice fa fn fc, .int .i64 q.size, .int .i64 q.sent, .int .i64 q.spots, .int .i64 q.per, .int .i64 q.pat, .int .i64 q.ret] rfl (range_of HB.out) Tryz.underlying26 rfl (by kernel_rfl) ?_) | (go_at_call 10; fail))
 refine (long16_any w2 ma fa mn mc fn fc n q).mono ?_
 rintro e w3 ⟨rfl, hf⟩
 replace HF := Hdq (HF.out.trans hf)
 replace HB := Hdq (HB.out.keep0 hf)
 clear hf
 rw [HL.out]
 have c0 : w3.cell? ⟨Z, 0, none⟩ = some (.slice ma mn mc) := HB.out.cell 0
 have c1 : w3.cell? ⟨Z, 1, none⟩ = some (.int .i64 n) := HB.out.cell 1
 obtain ⟨pb, hpb⟩ := exq (w3.heap.size)
 have HPB := Hdq hpb
 obtain ⟨w4, hw4⟩ := exq (w3.alloc (.cells #[.int .i64 q.size, .int .i64 q.sent, .int .i64 q.spots, .int .i64 q.per, .int .i64 q.pat, .int .i64 q.ret] 44))
 have F4 : Fr [] w3 w4 := by rw [<- hw4]; exact Fr.alloc _ _
 have HP := Hdq (show At w4 pb (.cells #[.int .i64 q.size, .int .i64 q.sent, .int .i64 q.spots, .int .i64 q.per, .int .i64 q.pat, .int .i64 q.ret] 44) by rw [<- hw4]; exact At.new hpb.symm)
 replace HF := Hdq (HF.out.trans F4)
 have HB4 := Hdq (HB.out.keep0 F4)
 have d0 : w4.cell? ⟨Z, 0, none⟩ = some (.slice ma mn mc) := HB4.out.cell 0
 have d1 : w4.cell? ⟨Z, 1, none⟩ = some (.int .i64 n) := HB4.out.cell 1
 clear F4
 go_wp2_with (first | (refine wpl_load_k (.tmp 23) rfl rfl Z 3 [.int .i64 q.size, .int .i64 q.sent, .int .i64 q.spots, .int .i64 q.per, .int .i64 q.pat, .int .i64 q.ret] rfl (range_off HB.out rfl) Tryz.underlying24 rfl (by kernel_rfl) ?_) | (refine wpl_store_new (.tmp 7) (.tmp 24) rfl rfl #[.int .i64 q.size, .int .i64 q.sent, .int .i64 q.spots, .int .i64 q.per, .int .i64 q.pat, .int .i64 q.ret] (by first | rfl | exact congrArg (fun n => Value.pointer (some ⟨n, 0, none⟩)) HPB.out.symm) rfl (by kernel_rfl) rfl (by kernel_rfl) ?_) | (refine wpl_load_k (.tmp 7) rfl rfl pb 0 [.int .i64 q.size, .int .i64 q.sent, .int .i64 q.spots, .int .i64 q.per, .int .i64 q.pat, .int .i64 q.ret] rfl (range_of HP.out) Tryz.underlying44 rfl (by kernel_rfl) ?_) | (go_at_call 18; fail))
 clear hw4 hpb c0 c1 d0 d1
 replace HB := HB4
 clear HB4
 refine (rready_bad w4 (.slice ma mn mc) m n q (HM.out _ HF.out) (HR.out _ HF.out) HKK.out).mono ?_
 rintro e w5 ⟨rfl, hf⟩
 replace HF := Hdq (HF.out.trans hf)
 replace HB := Hdq (HB.out.keep0 hf)
 replace HP := Hdq (HP.out.keep0 hf)
 clear hf
 obtain ⟨kq, hkq⟩ := exq (sdE q m n)
 have HKL := Hdq (show kq <= 20 from by rw [<- hkq]; exact sdE_le)
 have HKQ := Hdq hkq
 rw [hkq]
 have hk0 : ¬ (kq : Int) = 0 := by have := HKK.out; omega
 clear hkq
 obtain ⟨kb, hkb⟩ := exq (w5.heap.size)
 obtain ⟨w6, hw6⟩ := exq (w5.alloc (.cells n5q 29))
 have F6 : Fr [] w5 w6 := by rw [<- hw6]; exact Fr.alloc _ _
 have HK := Hdq (show At w6 kb (.cells n5q 29) by rw [<- hw6]; exact At.new hkb.symm)
 have HKZ := Hdq (show Z < kb /\ w0.heap.size <= kb from ⟨by rw [<- hkb]; exact lt_of_heap HB.out, by rw [<- hkb]; exact HF.out.size⟩)
 replace HF := Hdq (HF.out.trans F6)
 replace HB := Hdq (HB.out.keep0 F6)
 clear F6
 go_wp2_with (refine wpl_store_all (.tmp 8) (.tmp 32) rfl rfl n5q rfl rfl (by kernel_rfl) HK.out rfl (by kernel_rfl) ?_)
 clear hw6 hkb
 intro w7 f9 a9 s9
 replace HF := Hdq (HF.out.then f9 (fun z hz => .inr (by simp at hz; subst hz; exact HKZ.out.2)))
 replace HB := Hdq (HB.out.keep f9 (by have := HKZ.out.1; simp; omega))
 clear f9 a9 s9 HK HP
 have c0 : w7.cell? ⟨Z, 0, none⟩ = some (.slice ma mn mc) := HB.out.cell 0
 have c1 : w7.cell? ⟨Z, 1, none⟩ = some (.int .i64 n) := HB.out.cell 1
 go_wp2_with (first | (refine wpl_load_k (.tmp 39) rfl rfl Z 3 [.int .i64 q.size, .int .i64 q.sent, .int .i64 q.spots, .int .i64 q.per, .int .i64 q.pat, .int .i64 q.ret] rfl (range_off HB.out rfl) Tryz.underlying24 rfl (by kernel_rfl) ?_) | (go_at_call 19; fail))
 clear c0 c1
 refine (sdPlace_any E B w7 (.slice ma mn mc) m n x q (HE.out _ HF.out) (HS.out _ HF.out) (HM.out _ HF.out)).mono ?_
 rintro e w8 ⟨-, -, h3, hf⟩
 obtain ⟨e1, rfl, hv⟩ := h3 HKK.out
 rw [HKQ.out] at hv
 have V1 := Hdq hv
 clear h3 hv
 replace HF := Hdq (HF.out.trans hf)
 replace HB := Hdq (HB.out.keep0 hf)
 clear hf
 have c0 : w8.cell? ⟨Z, 0, none⟩ = some (.slice ma mn mc) := HB.out.cell 0
 have c1 : w8.cell? ⟨Z, 1, none⟩ = some (.int .i64 n) := HB.out.cell 1
 go_wp2_with (first | (refine wpl_load_k (.tmp 50) rfl rfl Z 3 [.int .i64 q.size, .int .i64 q.sent, .int .i64 q.spots, .int .i64 q.per, .int .i64 q.pat, .int .i64 q.ret] rfl (range_off HB.out rfl) Tryz.underlying24 rfl (by kernel_rfl) ?_) | (go_at_call 20; fail))
 clear c0 c1
 refine (sdBack_any E B w8 (.slice ma mn mc) m n x q (HE.out _ HF.out) (HS.out _ HF.out) (HM.out _ HF.out)).mono ?_
 rintro e w9 ⟨-, -, h3, hf⟩
 obtain ⟨e2, rfl, hv⟩ := h3 HKK.out
 rw [HKQ.out] at hv
 have V2 := Hdq hv
 clear h3 hv
 replace HF := Hdq (HF.out.trans hf)
 replace HB := Hdq (HB.out.keep0 hf)
 replace V1 := Hdq (V1.out.keep0 hf)
 clear hf
 have c0 : w9.cell? ⟨Z, 0, none⟩ = some (.slice ma mn mc) := HB.out.cell 0
 have c1 : w9.cell? ⟨Z, 1, none⟩ = some (.int .i64 n) := HB.out.cell 1
 go_wp2_with (first | (refine wpl_load_k (.tmp 61) rfl rfl Z 3 [.int .i64 q.size, .int .i64 q.sent, .int .i64 q.spots, .int .i64 q.per, .int .i64 q.pat, .int .i64 q.ret] rfl (range_off HB.out rfl) Tryz.underlying24 rfl (by kernel_rfl) ?_) | (go_at_call 21; fail))
 clear c0 c1
 refine (sdSentinel_any E B w9 (.slice ma mn mc) m n y q (HE.out _ HF.out) (HS.out _ HF.out) (HM.out _ HF.out)).mono ?_
 rintro e w10 ⟨-, -, h3, hf⟩
 obtain ⟨e3, rfl, hv⟩ := h3 HKK.out
 rw [HKQ.out] at hv
 have V3 := Hdq hv
 clear h3 hv
 replace HF := Hdq (HF.out.trans hf)
 replace V1 := Hdq (V1.out.keep0 hf)
 replace V2 := Hdq (V2.out.keep0 hf)
 clear hf
 go_wp2_with (go_at_call 15; fail)
 refine (num_err E B kq e1 w10 (HE.out _ HF.out) HKL.out V1.out).mono ?_
 rintro e w11 ⟨rfl, hf⟩
 replace HF := Hdq (HF.out.trans hf)
 replace V1 := Hdq (V1.out.keep0 hf)
 replace V2 := Hdq (V2.out.keep0 hf)
 replace V3 := Hdq (V3.out.keep0 hf)
 clear hf
 go_wp2_with (go_at_call 15; fail)
 refine (num_err E B kq e2 w11 (HE.out _ HF.out) HKL.out V2.out).mono ?_
 rintro e w12 ⟨rfl, hf⟩
 replace HF := Hdq (HF.out.trans hf)
 replace V1 := Hdq (V1.out.keep0 hf)
 replace V2 := Hdq (V2.out.keep0 hf)
 replace V3 := Hdq (V3.out.keep0 hf)
 clear hf
 go_wp2_with (go_at_call 15; fail)
 refine (num_err E B kq e3 w12 (HE.out _ HF.out) HKL.out V3.out).mono ?_
 rintro e w13 ⟨rfl, hf⟩
 replace HF := Hdq (HF.out.trans hf)
 replace V1 := Hdq (V1.out.keep0 hf)
 replace V2 := Hdq (V2.out.keep0 hf)
 replace V3 := Hdq (V3.out.keep0 hf)
 clear hf
 go_wp2
 go_ret
 exact ⟨rfl, HF.out⟩
theorem splaces_ok (E : Nat -> Addr) (B : Nat) (w0 : World) (mv fv : Value) (m f : List UInt8) (n x y : Int) (q : Par) (hE : Errs all20 E B w0) (hS : SG w0) (hR : RG w0) (hM : Bs (fun _ => False) w0 mv m) (hF : Bs (fun _ => False) w0 fv f) (hl : longB m.length f.length q.size = false) (hk : sdE q m n = 0) :
  Calls Tryz.prog 4 #[madeV mv n fv q, .int .i64 x, .int .i64 y] w0 fun e w' => e = .returned (.bool true) /\ Fr [] w0 w' := by
 obtain ⟨ma, mc, rfl, -, -, -⟩ := id hM
 obtain ⟨fa, fc, rfl, -, -, -⟩ := id hF
 obtain ⟨mn, hmn⟩ := exq (m.length)
 obtain ⟨fn, hfn⟩ := exq (f.length)
 rw [hmn, hfn] at hl
 rw [hmn] at hM ⊢
 rw [hfn]
 unfold madeV
 obtain ⟨Z, hZ⟩ := exq (w0.heap.size)
 obtain ⟨w1, hw1⟩ := exq (w0.alloc (.cells #[.slice ma mn mc, .int .i64 n, .slice fa fn fc, .int .i64 q.size, .int .i64 q.sent, .int .i64 q.spots, .int .i64 q.per, .int .i64 q.pat, .int .i64 q.ret] 26))
 have F1 : Fr [] w0 w1 := by rw [<- hw1]; exact Fr.alloc _ _
 have HB := Hdq (show At w1 Z (.cells #[.slice ma mn mc, .int .i64 n, .slice fa fn fc, .int .i64 q.size, .int .i64 q.sent, .int .i64 q.spots, .int .i64 q.per, .int .i64 q.pat, .int .i64 q.ret] 26) by rw [<- hw1]; exact At.new hZ.symm)
 have HF := Hdq F1
 have HM := Hdq (fun wi (h : Fr [] w0 wi) => show Bs (fun b => wi.heap.size <= b) wi (.slice ma mn mc) m from bs_low (hM.keep h (by simp)))
 have HE := Hdq (fun wi (h : Fr [] w0 wi) => hE.keep0 h)
 have HS := Hdq (fun wi (h : Fr [] w0 wi) => hS.keep h)
 have HR := Hdq (fun wi (h : Fr [] w0 wi) => hR.keep h)
 have HMN := Hdq hmn
 have HL := Hdq hl
 have HKK := Hdq hk
 have hq := chk_nil (sdE_zero hk).1
 have HQ := Hdq (show (0 <= q.size /\ q.size <= 2000) /\ (0 <= q.sent /\ q.sent <= 8) /\ (0 <= blk q.size /\ blk q.size <= 510) from ⟨hq.1, hq.2, blk_le hq.1⟩)
 clear hk hq
 clear hE hS hR hM hF F1 hmn hfn hl
 go_enter Tryz.func4, Tryz.ntmps4
 go_wp2_with (go_at_call 9; fail)
 clear hw1
 refine (alive16_ok E B w1 (HE.out _ HF.out) (HS.out _ HF.out)).mono ?_
 rintro e w2 ⟨rfl, hf⟩
 replace HF := Hdq (HF.out.trans hf)
 replace HB := Hdq (HB.out.keep0 hf)
 clear hf hZ
 go_wp2_with (first | (refine wpl_load_k (.tmp 3) rfl rfl Z 0 [.slice ma mn mc, .int .i64 n, .slice fa fn fc, .int .i64 q.size, .int .i64 q.sent, .int .i64 q.spots, .int .i64 q.per, .int .i64 q.pat, .int .i64 q.ret] rfl (range_of HB.out) Tryz.underlying26 rfl (by kernel_rfl) ?_) | (go_at_call 10; fail))
 refine (long16_any w2 ma fa mn mc fn fc n q).mono ?_
 rintro e w3 ⟨rfl, hf⟩
 replace HF := Hdq (HF.out.trans hf)
 replace HB := Hdq (HB.out.keep0 hf)
 clear hf
 rw [HL.out]
 have c0 : w3.cell? ⟨Z, 0, none⟩ = some (.slice ma mn mc) := HB.out.cell 0
 have c1 : w3.cell? ⟨Z, 1, none⟩ = some (.int .i64 n) := HB.out.cell 1
 obtain ⟨pb, hpb⟩ := exq (w3.heap.size)
 have HPB := Hdq hpb
 obtain ⟨w4, hw4⟩ := exq (w3.alloc (.cells #[.int .i64 q.size, .int .i64 q.sent, .int .i64 q.spots, .int .i64 q.per, .int .i64 q.pat, .int .i64 q.ret] 44))
 have F4 : Fr [] w3 w4 := by rw [<- hw4]; exact Fr.alloc _ _
 have HP := Hdq (show At w4 pb (.cells #[.int .i64 q.size, .int .i64 q.sent, .int .i64 q.spots, .int .i64 q.per, .int .i64 q.pat, .int .i64 q.ret] 44) by rw [<- hw4]; exact At.new hpb.symm)
 replace HF := Hdq (HF.out.trans F4)
 have HB4 := Hdq (HB.out.keep0 F4)
 have d0 : w4.cell? ⟨Z, 0, none⟩ = some (.slice ma mn mc) := HB4.out.cell 0
 have d1 : w4.cell? ⟨Z, 1, none⟩ = some (.int .i64 n) := HB4.out.cell 1
 clear F4
 go_wp2_with (first | (refine wpl_load_k (.tmp 23) rfl rfl Z 3 [.int .i64 q.size, .int .i64 q.sent, .int .i64 q.spots, .int .i64 q.per, .int .i64 q.pat, .int .i64 q.ret] rfl (range_off HB.out rfl) Tryz.underlying24 rfl (by kernel_rfl) ?_) | (refine wpl_store_new (.tmp 7) (.tmp 24) rfl rfl #[.int .i64 q.size, .int .i64 q.sent, .int .i64 q.spots, .int .i64 q.per, .int .i64 q.pat, .int .i64 q.ret] (by first | rfl | exact congrArg (fun n => Value.pointer (some ⟨n, 0, none⟩)) HPB.out.symm) rfl (by kernel_rfl) rfl (by kernel_rfl) ?_) | (refine wpl_load_k (.tmp 7) rfl rfl pb 0 [.int .i64 q.size, .int .i64 q.sent, .int .i64 q.spots, .int .i64 q.per, .int .i64 q.pat, .int .i64 q.ret] rfl (range_of HP.out) Tryz.underlying44 rfl (by kernel_rfl) ?_) | (go_at_call 18; fail))
 clear hw4 hpb c0 c1 d0 d1
 replace HB := HB4
 clear HB4
 refine (rready_ok w4 (.slice ma mn mc) m n q (HM.out _ HF.out) (HR.out _ HF.out) (sdE_zero HKK.out).1 (sdE_zero HKK.out).2).mono ?_
 rintro e w5 ⟨u0, u1, u2, u3, u4, rfl, ⟨g0, g1, g2, g3, g4⟩, hf⟩
 obtain ⟨x0, n0, y0, rfl⟩ := ownB_ps g0
 obtain ⟨x1, n1, y1, rfl⟩ := ownB_ps g1
 obtain ⟨x2, n2, y2, rfl⟩ := ownB_ps g2
 obtain ⟨x3, n3, y3, rfl⟩ := ownB_ps g3
 obtain ⟨x4, n4, y4, rfl⟩ := ownB_ps g4
 replace HF := Hdq (HF.out.trans hf)
 replace HB := Hdq (HB.out.keep0 hf)
 replace HP := Hdq (HP.out.keep0 hf)
 clear hf
 obtain ⟨kb, hkb⟩ := exq (w5.heap.size)
 have HPB2 := Hdq hkb
 obtain ⟨w6, hw6⟩ := exq (w5.alloc (.cells #[.slice x0 n0 y0, .slice x1 n1 y1, .slice x2 n2 y2, .slice x3 n3 y3, .slice x4 n4 y4] 29))
 have F6 : Fr [] w5 w6 := by rw [<- hw6]; exact Fr.alloc _ _
 have HK := Hdq (show At w6 kb (.cells #[.slice x0 n0 y0, .slice x1 n1 y1, .slice x2 n2 y2, .slice x3 n3 y3, .slice x4 n4 y4] 29) by rw [<- hw6]; exact At.new hkb.symm)
 have K1 := Hdq ((g1.bs (A := fun _ => False) (fun _ h => h.elim)).keep F6 (by simp))
 have K2 := Hdq ((g2.bs (A := fun _ => False) (fun _ h => h.elim)).keep F6 (by simp))
 have K3 := Hdq ((g3.bs (A := fun _ => False) (fun _ h => h.elim)).keep F6 (by simp))
 replace HF := Hdq (HF.out.trans F6)
 replace HB := Hdq (HB.out.keep0 F6)
 replace HP := Hdq (HP.out.keep0 F6)
 clear F6 g0 g1 g2 g3 g4
 have c0 : w6.cell? ⟨Z, 0, none⟩ = some (.slice ma mn mc) := HB.out.cell 0
 have c1 : w6.cell? ⟨Z, 1, none⟩ = some (.int .i64 n) := HB.out.cell 1
 go_wp2_with (first | (refine wpl_store_new (.tmp 8) (.tmp 32) rfl rfl #[.slice x0 n0 y0, .slice x1 n1 y1, .slice x2 n2 y2, .slice x3 n3 y3, .slice x4 n4 y4] (by first | rfl | exact congrArg (fun n => Value.pointer (some ⟨n, 0, none⟩)) HPB2.out.symm) rfl (by kernel_rfl) rfl (by kernel_rfl) ?_) | (refine wpl_load_k (.tmp 39) rfl rfl Z 3 [.int .i64 q.size, .int .i64 q.sent, .int .i64 q.spots, .int .i64 q.per, .int .i64 q.pat, .int .i64 q.ret] rfl (range_off HB.out rfl) Tryz.underlying24 rfl (by kernel_rfl) ?_) | (go_at_call 19; fail))
 clear hw6 hkb c0 c1
 refine (placeC E B w6 (.slice ma mn mc) m n x q (HE.out _ HF.out) (HS.out _ HF.out) (HM.out _ HF.out) HKK.out).mono ?_
 rintro e w7 ⟨A, e1, rfl, a1, a2, hf⟩
 have A1 := Hdq a1
 have A2 := Hdq a2
 clear a1 a2
 replace HF := Hdq (HF.out.trans hf)
 replace HB := Hdq (HB.out.keep0 hf)
 replace HP := Hdq (HP.out.keep0 hf)
 replace HK := Hdq (HK.out.keep0 hf)
 replace K1 := Hdq (K1.out.keep hf (by simp))
 replace K2 := Hdq (K2.out.keep hf (by simp))
 replace K3 := Hdq (K3.out.keep hf (by simp))
 clear hf
 have c0 : w7.cell? ⟨Z, 0, none⟩ = some (.slice ma mn mc) := HB.out.cell 0
 have c1 : w7.cell? ⟨Z, 1, none⟩ = some (.int .i64 n) := HB.out.cell 1
 go_wp2_with (first | (refine wpl_load_k (.tmp 50) rfl rfl Z 3 [.int .i64 q.size, .int .i64 q.sent, .int .i64 q.spots, .int .i64 q.per, .int .i64 q.pat, .int .i64 q.ret] rfl (range_off HB.out rfl) Tryz.underlying24 rfl (by kernel_rfl) ?_) | (go_at_call 20; fail))
 clear c0 c1
 refine (backC E B w7 (.slice ma mn mc) m n x q (HE.out _ HF.out) (HS.out _ HF.out) (HM.out _ HF.out) HKK.out).mono ?_
 rintro e w8 ⟨A', e2, rfl, a1, a2, hf⟩
 have B1 := Hdq a1
 have B2 := Hdq a2
 clear a1 a2
 replace HF := Hdq (HF.out.trans hf)
 replace HB := Hdq (HB.out.keep0 hf)
 replace HP := Hdq (HP.out.keep0 hf)
 replace HK := Hdq (HK.out.keep0 hf)
 replace K1 := Hdq (K1.out.keep hf (by simp))
 replace K2 := Hdq (K2.out.keep hf (by simp))
 replace K3 := Hdq (K3.out.keep hf (by simp))
 clear hf
 have c0 : w8.cell? ⟨Z, 0, none⟩ = some (.slice ma mn mc) := HB.out.cell 0
 have c1 : w8.cell? ⟨Z, 1, none⟩ = some (.int .i64 n) := HB.out.cell 1
 go_wp2_with (first | (refine wpl_load_k (.tmp 61) rfl rfl Z 3 [.int .i64 q.size, .int .i64 q.sent, .int .i64 q.spots, .int .i64 q.per, .int .i64 q.pat, .int .i64 q.ret] rfl (range_off HB.out rfl) Tryz.underlying24 rfl (by kernel_rfl) ?_) | (go_at_call 21; fail))
 clear c0 c1
 refine (sentC E B w8 (.slice ma mn mc) m n y q (HE.out _ HF.out) (HS.out _ HF.out) (HM.out _ HF.out) HKK.out).mono ?_
 rintro e w9 ⟨A3, ua, un, uc, e3, rfl, a1, a2, hf⟩
 have s1 := Hdq a1
 have s2 := Hdq a2
 clear a1 a2
 replace HF := Hdq (HF.out.trans hf)
 replace HP := Hdq (HP.out.keep0 hf)
 replace HK := Hdq (HK.out.keep0 hf)
 replace K1 := Hdq (K1.out.keep hf (by simp))
 replace K2 := Hdq (K2.out.keep hf (by simp))
 replace K3 := Hdq (K3.out.keep hf (by simp))
 clear hf
 have HFF := Hdq (Fr.refl [] w9)
 have HST := Hdq (fun w => rstored_ok w q HQ.out.1 HQ.out.2.1)
 obtain ⟨NN, hNN⟩ := exq ((blk q.size + q.sent).toNat)
 have hNI : blk q.size + q.sent = (NN : Int) := by have := HQ.out; omega
 have HN9 := Hdq hNN
 rw [hNI] at HST
 have HNI := Hdq hNI
 have hN5 : NN <= 1000 := by have := HQ.out; omega
 clear hNI hNN
 by_cases hx : 0 <= x /\ x < (NN : Int)
 ·obtain ⟨hA, rfl⟩ := A1.out (by rw [HN9.out]; exact hx)
  obtain ⟨hB, rfl⟩ := B1.out (by rw [HN9.out]; exact hx)
  rw [HN9.out] at hA hB
  obtain ⟨xn, rfl⟩ : ∃ xn : Nat, x = (xn : Int) := ⟨x.toNat, by omega⟩
  rw [Int.toNat_natCast] at hA hB
  have hxn : xn < NN := by omega
  have hp1 := placeN_lt (key := subL m nPlace n) (n := NN) (by omega) hxn
  have hp2 := numN_lt (key := subL m nPlace n) (n := NN) (by omega) hxn
  have hp3 := placeN_numN (key := subL m nPlace n) (n := NN) (by omega) hxn
  obtain ⟨PX, hPX⟩ := exq (placeN (subL m nPlace n) NN xn)
  obtain ⟨BX, hBX⟩ := exq (numN (subL m nPlace n) NN xn)
  rw [hPX] at hA hp1
  rw [hBX] at hB hp2 hp3
  subst hA hB
  have HPL1 := Hdq (fun wi (h : Fr [] w0 wi) (k : Bs (fun _ => False) wi (.slice x1 n1 y1) (subL m nPlace n)) => rplace_any wi x0 x1 x2 x3 x4 n0 n1 n2 n3 n4 y0 y1 y2 y3 y4 (subL m nPlace n) q xn (bs_low k) (by rw [subL_len]; decide) (HR.out _ h) HQ.out.1 HQ.out.2.1 (by rw [HN9.out]; exact hxn))
  have HPL2 := Hdq (fun wi (h : Fr [] w0 wi) (k : Bs (fun _ => False) wi (.slice x1 n1 y1) (subL m nPlace n)) => rplace_any wi x0 x1 x2 x3 x4 n0 n1 n2 n3 n4 y0 y1 y2 y3 y4 (subL m nPlace n) q BX (bs_low k) (by rw [subL_len]; decide) (HR.out _ h) HQ.out.1 HQ.out.2.1 (by rw [HN9.out]; exact hp2))
  rw [HN9.out, hPX] at HPL1
  rw [HN9.out, hp3] at HPL2
  have hx0 : ¬ (xn : Int) < 0 := by omega
  have hx1 : ¬ (NN : Int) <= (xn : Int) := by omega
  have hb0 : ¬ (BX : Int) < 0 := by omega
  have hb1 : ¬ (NN : Int) <= (BX : Int) := by omega
  have hb2 : decide (NN <= BX) = false := decide_eq_false (by omega)
  have hb3 : ¬ NN <= BX := by omega
  clear A1 A2 B1 B2 hx hxn hp1 hp2 hp3 hPX hBX hN5
  go_wp2_with (first | (refine wpl_load_kW (.tmp 7) rfl rfl pb 0 [.int .i64 q.size, .int .i64 q.sent, .int .i64 q.spots, .int .i64 q.per, .int .i64 q.pat, .int .i64 q.ret] rfl (range_of HP.out) Tryz.underlying44 rfl (by kernel_rfl) ?_) | (go_at_call 22; fail))
  refine (HST.out w9).mono ?_
  rintro e v1 ⟨rfl, hf⟩
  replace HF := Hdq (HF.out.trans hf)
  replace HP := Hdq (HP.out.keep0 hf)
  replace HK := Hdq (HK.out.keep0 hf)
  replace K1 := Hdq (K1.out.keep hf (by simp))
  replace K2 := Hdq (K2.out.keep hf (by simp))
  replace K3 := Hdq (K3.out.keep hf (by simp))
  replace HFF := Hdq (HFF.out.trans hf)
  clear hf
  go_wp2_with (first | (refine wpl_load_kW (.tmp 7) rfl rfl pb 0 [.int .i64 q.size, .int .i64 q.sent, .int .i64 q.spots, .int .i64 q.per, .int .i64 q.pat, .int .i64 q.ret] rfl (range_of HP.out) Tryz.underlying44 rfl (by kernel_rfl) ?_) | (refine wpl_load_kW (.tmp 8) rfl rfl kb 0 [.slice x0 n0 y0, .slice x1 n1 y1, .slice x2 n2 y2, .slice x3 n3 y3, .slice x4 n4 y4] rfl (range_of HK.out) Tryz.underlying29 rfl (by kernel_rfl) ?_) | (go_at_call 23; fail))
  refine (HPL1.out v1 HF.out K1.out).mono ?_
  rintro e v2 ⟨rfl, hf⟩
  replace HF := Hdq (HF.out.trans hf)
  replace HP := Hdq (HP.out.keep0 hf)
  replace HK := Hdq (HK.out.keep0 hf)
  replace K1 := Hdq (K1.out.keep hf (by simp))
  replace K2 := Hdq (K2.out.keep hf (by simp))
  replace K3 := Hdq (K3.out.keep hf (by simp))
  replace HFF := Hdq (HFF.out.trans hf)
  clear hf
  go_wp2_with (first | (refine wpl_load_kW (.tmp 7) rfl rfl pb 0 [.int .i64 q.size, .int .i64 q.sent, .int .i64 q.spots, .int .i64 q.per, .int .i64 q.pat, .int .i64 q.ret] rfl (range_of HP.out) Tryz.underlying44 rfl (by kernel_rfl) ?_) | (go_at_call 22; fail))
  refine (HST.out v2).mono ?_
  rintro e v3 ⟨rfl, hf⟩
  replace HF := Hdq (HF.out.trans hf)
  replace HP := Hdq (HP.out.keep0 hf)
  replace HK := Hdq (HK.out.keep0 hf)
  replace K1 := Hdq (K1.out.keep hf (by simp))
  replace K2 := Hdq (K2.out.keep hf (by simp))
  replace K3 := Hdq (K3.out.keep hf (by simp))
  replace HFF := Hdq (HFF.out.trans hf)
  clear hf
  go_wp2_with (first | (refine wpl_load_kW (.tmp 7) rfl rfl pb 0 [.int .i64 q.size, .int .i64 q.sent, .int .i64 q.spots, .int .i64 q.per, .int .i64 q.pat, .int .i64 q.ret] rfl (range_of HP.out) Tryz.underlying44 rfl (by kernel_rfl) ?_) | (refine wpl_load_kW (.tmp 8) rfl rfl kb 0 [.slice x0 n0 y0, .slice x1 n1 y1, .slice x2 n2 y2, .slice x3 n3 y3, .slice x4 n4 y4] rfl (range_of HK.out) Tryz.underlying29 rfl (by kernel_rfl) ?_) | (go_at_call 23; fail))
  refine (HPL2.out v3 HF.out K1.out).mono ?_
  rintro e v4 ⟨rfl, hf⟩
  replace HF := Hdq (HF.out.trans hf)
  replace HP := Hdq (HP.out.keep0 hf)
  replace HK := Hdq (HK.out.keep0 hf)
  replace K1 := Hdq (K1.out.keep hf (by simp))
  replace K2 := Hdq (K2.out.keep hf (by simp))
  replace K3 := Hdq (K3.out.keep hf (by simp))
  replace HFF := Hdq (HFF.out.trans hf)
  clear hf
  clear hx0 hx1 hb0 hb1 hb2 hb3 HPL1 HPL2
  by_cases hy : 0 <= y /\ y < q.sent
  ·have hj0 : ¬ y < 0 := by omega
   have hj2 : decide (y < 0) = false := decide_eq_false hj0
   have hj1 : ¬ q.sent <= y := by omega
   have hj3 : decide (q.sent <= y) = false := decide_eq_false hj1
   obtain ⟨rfl, rfl, hO⟩ := s1.out hy
   have HU := Hdq (hO.bs (A := fun _ => False) (fun _ h => h.elim))
   have HY := Hdq hy
   clear hO hy
   replace HU := Hdq (HU.out.keep HFF.out (by simp))
   clear HFF
   have cs : v4.cell? ⟨pb, 1, none⟩ = some (.int .i64 q.sent) := HP.out.cell 1
   go_wp2_with (first | (refine wpl_load_k (.tmp 8) rfl rfl kb 0 [.slice x0 n0 y0, .slice x1 n1 y1, .slice x2 n2 y2, .slice x3 n3 y3, .slice x4 n4 y4] rfl (range_of HK.out) Tryz.underlying29 rfl (by kernel_rfl) ?_) | (refine wpl_load_k (.tmp 7) rfl rfl pb 0 [.int .i64 q.size, .int .i64 q.sent, .int .i64 q.spots, .int .i64 q.per, .int .i64 q.pat, .int .i64 q.ret] rfl (range_of HP.out) Tryz.underlying44 rfl (by kernel_rfl) ?_) | (go_at_call 24; fail))
   clear cs
   obtain ⟨yn, rfl⟩ : ∃ yn : Nat, y = (yn : Int) := ⟨y.toNat, by have := HY.out; omega⟩
   refine (rsent_any v4 x0 x1 x2 x3 x4 n0 n1 n2 n3 n4 y0 y1 y2 y3 y4 (subL m nPlace n) (subL m nSent n) (subL m nTag n) q yn (bs_low K1.out) (bs_low K2.out) (bs_low K3.out) (by rw [subL_len]; decide) (by rw [subL_len]; decide) (by rw [subL_len]; decide) (HR.out _ HF.out) HQ.out.1 HQ.out.2.1 HY.out.2).mono ?_
   rintro e v5 ⟨u, rfl, hu, hf⟩
   obtain ⟨za, zn, zc, rfl⟩ := ownB_ps hu
   rw [Int.toNat_natCast] at HU
   have HZ := Hdq (hu.bs (A := fun _ => False) (fun _ h => h.elim))
   replace HU := Hdq (HU.out.keep hf (by simp))
   replace HF := Hdq (HF.out.trans hf)
   clear hf hu
   rw [Int.toNat_natCast]
   obtain ⟨S, hS⟩ := exq ((⟨(tgdL (subL m nTag n) ((placeN (subL m nPlace n) (blk q.size + q.sent).toNat ((blk q.size).toNat + yn) : Nat) : Int) (strL (subL m nSent n) (yn : Int))).toArray⟩ : ByteArray))
   have HSS := Hdq hS
   obtain ⟨R, hR⟩ := exq (placeN (subL m nPlace n) (blk q.size + q.sent).toNat ((blk q.size).toNat + yn))
   rw [hR] at HU HZ HSS ⊢
   clear hS hR
   go_wp2_with (first | (refine wpl_strW Tryz.underlying22 Tryz.underlying5 Tryz.underlying9 (.tmp 194) rfl rfl rfl HU.out S HSS.out ?_) | (refine wpl_strW Tryz.underlying22 Tryz.underlying5 Tryz.underlying9 (.tmp 196) rfl rfl rfl HZ.out S HSS.out ?_))
   go_ret
   exact ⟨rfl, HF.out⟩
  ·obtain ⟨rfl, rfl, hev⟩ := s2.out hy
   have HN := Hdq (fun p (h : Fr [] w0 p) => num_any E B 18 p (HE.out _ h) (by decide))
   rw [<- hev] at HN
   clear hev
   by_cases hj0 : y < 0
   ·clear hy
    go_wp2_with (go_at_call 15; fail)
    refine (HN.out v4 HF.out).mono ?_
    rintro e v6 ⟨rfl, hf⟩
    replace HF := Hdq (HF.out.trans hf)
    clear hf
    go_wp2
    go_ret
    exact ⟨rfl, HF.out⟩
   ·have hj1 : q.sent <= y := by omega
    have hj2 : decide (y < 0) = false := decide_eq_false hj0
    have hj3 : decide (q.sent <= y) = true := decide_eq_true hj1
    have cs : v4.cell? ⟨pb, 1, none⟩ = some (.int .i64 q.sent) := HP.out.cell 1
    clear hy
    go_wp2_with (go_at_call 15; fail)
    refine (HN.out v4 HF.out).mono ?_
    rintro e v7 ⟨rfl, hf⟩
    replace HF := Hdq (HF.out.trans hf)
    clear hf
    go_wp2
    go_ret
    exact ⟨rfl, HF.out⟩
 ·obtain ⟨rfl, he1⟩ := A2.out (by rw [HN9.out]; exact hx)
  obtain ⟨rfl, he2⟩ := B2.out (by rw [HN9.out]; exact hx)
  have HN1 := Hdq (fun p (h : Fr [] w0 p) => num_any E B 1 p (HE.out _ h) (by decide))
  rw [<- he1] at he2
  rw [<- he1] at HN1
  obtain rfl := he2
  clear A1 A2 B1 B2 he1 hN5
  by_cases hx0 : x < 0
  ·clear hx
   go_wp2_with (go_at_call 15; fail)
   refine (HN1.out w9 HF.out).mono ?_
   rintro e v8 ⟨rfl, hf⟩
   replace HF := Hdq (HF.out.trans hf)
   replace HP := Hdq (HP.out.keep0 hf)
   replace HK := Hdq (HK.out.keep0 hf)
   replace K1 := Hdq (K1.out.keep hf (by simp))
   replace K2 := Hdq (K2.out.keep hf (by simp))
   replace K3 := Hdq (K3.out.keep hf (by simp))
   replace HFF := Hdq (HFF.out.trans hf)
   clear hf
   go_wp2_with (go_at_call 15; fail)
   refine (HN1.out v8 HF.out).mono ?_
   rintro e v9 ⟨rfl, hf⟩
   replace HF := Hdq (HF.out.trans hf)
   replace HP := Hdq (HP.out.keep0 hf)
   replace HK := Hdq (HK.out.keep0 hf)
   replace K1 := Hdq (K1.out.keep hf (by simp))
   replace K2 := Hdq (K2.out.keep hf (by simp))
   replace K3 := Hdq (K3.out.keep hf (by simp))
   replace HFF := Hdq (HFF.out.trans hf)
   clear hf
   clear hx0 HN1
   by_cases hy : 0 <= y /\ y < q.sent
   ·have hj0 : ¬ y < 0 := by omega
    have hj2 : decide (y < 0) = false := decide_eq_false hj0
    have hj1 : ¬ q.sent <= y := by omega
    have hj3 : decide (q.sent <= y) = false := decide_eq_false hj1
    obtain ⟨rfl, rfl, hO⟩ := s1.out hy
    have HU := Hdq (hO.bs (A := fun _ => False) (fun _ h => h.elim))
    have HY := Hdq hy
    clear hO hy
    replace HU := Hdq (HU.out.keep HFF.out (by simp))
    clear HFF
    have cs : v9.cell? ⟨pb, 1, none⟩ = some (.int .i64 q.sent) := HP.out.cell 1
    go_wp2_with (first | (refine wpl_load_k (.tmp 8) rfl rfl kb 0 [.slice x0 n0 y0, .slice x1 n1 y1, .slice x2 n2 y2, .slice x3 n3 y3, .slice x4 n4 y4] rfl (range_of HK.out) Tryz.underlying29 rfl (by kernel_rfl) ?_) | (refine wpl_load_k (.tmp 7) rfl rfl pb 0 [.int .i64 q.size, .int .i64 q.sent, .int .i64 q.spots, .int .i64 q.per, .int .i64 q.pat, .int .i64 q.ret] rfl (range_of HP.out) Tryz.underlying44 rfl (by kernel_rfl) ?_) | (go_at_call 24; fail))
    clear cs
    obtain ⟨yn, rfl⟩ : ∃ yn : Nat, y = (yn : Int) := ⟨y.toNat, by have := HY.out; omega⟩
    refine (rsent_any v9 x0 x1 x2 x3 x4 n0 n1 n2 n3 n4 y0 y1 y2 y3 y4 (subL m nPlace n) (subL m nSent n) (subL m nTag n) q yn (bs_low K1.out) (bs_low K2.out) (bs_low K3.out) (by rw [subL_len]; decide) (by rw [subL_len]; decide) (by rw [subL_len]; decide) (HR.out _ HF.out) HQ.out.1 HQ.out.2.1 HY.out.2).mono ?_
    rintro e v10 ⟨u, rfl, hu, hf⟩
    obtain ⟨za, zn, zc, rfl⟩ := ownB_ps hu
    rw [Int.toNat_natCast] at HU
    have HZ := Hdq (hu.bs (A := fun _ => False) (fun _ h => h.elim))
    replace HU := Hdq (HU.out.keep hf (by simp))
    replace HF := Hdq (HF.out.trans hf)
    clear hf hu
    rw [Int.toNat_natCast]
    obtain ⟨S, hS⟩ := exq ((⟨(tgdL (subL m nTag n) ((placeN (subL m nPlace n) (blk q.size + q.sent).toNat ((blk q.size).toNat + yn) : Nat) : Int) (strL (subL m nSent n) (yn : Int))).toArray⟩ : ByteArray))
    have HSS := Hdq hS
    obtain ⟨R, hR⟩ := exq (placeN (subL m nPlace n) (blk q.size + q.sent).toNat ((blk q.size).toNat + yn))
    rw [hR] at HU HZ HSS ⊢
    clear hS hR
    go_wp2_with (first | (refine wpl_strW Tryz.underlying22 Tryz.underlying5 Tryz.underlying9 (.tmp 194) rfl rfl rfl HU.out S HSS.out ?_) | (refine wpl_strW Tryz.underlying22 Tryz.underlying5 Tryz.underlying9 (.tmp 196) rfl rfl rfl HZ.out S HSS.out ?_))
    go_ret
    exact ⟨rfl, HF.out⟩
   ·obtain ⟨rfl, rfl, hev⟩ := s2.out hy
    have HN := Hdq (fun p (h : Fr [] w0 p) => num_any E B 18 p (HE.out _ h) (by decide))
    rw [<- hev] at HN
    clear hev
    by_cases hj0 : y < 0
    ·clear hy
     go_wp2_with (go_at_call 15; fail)
     refine (HN.out v9 HF.out).mono ?_
     rintro e v11 ⟨rfl, hf⟩
     replace HF := Hdq (HF.out.trans hf)
     clear hf
     go_wp2
     go_ret
     exact ⟨rfl, HF.out⟩
    ·have hj1 : q.sent <= y := by omega
     have hj2 : decide (y < 0) = false := decide_eq_false hj0
     have hj3 : decide (q.sent <= y) = true := decide_eq_true hj1
     have cs : v9.cell? ⟨pb, 1, none⟩ = some (.int .i64 q.sent) := HP.out.cell 1
     clear hy
     go_wp2_with (go_at_call 15; fail)
     refine (HN.out v9 HF.out).mono ?_
     rintro e v12 ⟨rfl, hf⟩
     replace HF := Hdq (HF.out.trans hf)
     clear hf
     go_wp2
     go_ret
     exact ⟨rfl, HF.out⟩
  ·have hx1 : (NN : Int) <= x := by omega
   have hx2 : decide (x < 0) = false := decide_eq_false hx0
   have hx3 : decide ((NN : Int) <= x) = true := decide_eq_true hx1
   clear hx
   go_wp2_with (first | (refine wpl_load_kW (.tmp 7) rfl rfl pb 0 [.int .i64 q.size, .int .i64 q.sent, .int .i64 q.spots, .int .i64 q.per, .int .i64 q.pat, .int .i64 q.ret] rfl (range_of HP.out) Tryz.underlying44 rfl (by kernel_rfl) ?_) | (go_at_call 22; fail))
   refine (HST.out w9).mono ?_
   rintro e v13 ⟨rfl, hf⟩
   replace HF := Hdq (HF.out.trans hf)
   replace HP := Hdq (HP.out.keep0 hf)
   replace HK := Hdq (HK.out.keep0 hf)
   replace K1 := Hdq (K1.out.keep hf (by simp))
   replace K2 := Hdq (K2.out.keep hf (by simp))
   replace K3 := Hdq (K3.out.keep hf (by simp))
   replace HFF := Hdq (HFF.out.trans hf)
   clear hf
   go_wp2_with (go_at_call 15; fail)
   refine (HN1.out v13 HF.out).mono ?_
   rintro e v14 ⟨rfl, hf⟩
   replace HF := Hdq (HF.out.trans hf)
   replace HP := Hdq (HP.out.keep0 hf)
   replace HK := Hdq (HK.out.keep0 hf)
   replace K1 := Hdq (K1.out.keep hf (by simp))
   replace K2 := Hdq (K2.out.keep hf (by simp))
   replace K3 := Hdq (K3.out.keep hf (by simp))
   replace HFF := Hdq (HFF.out.trans hf)
   clear hf
   go_wp2_with (go_at_call 15; fail)
   refine (HN1.out v14 HF.out).mono ?_
   rintro e v15 ⟨rfl, hf⟩
   replace HF := Hdq (HF.out.trans hf)
   replace HP := Hdq (HP.out.keep0 hf)
   replace HK := Hdq (HK.out.keep0 hf)
   replace K1 := Hdq (K1.out.keep hf (by simp))
   replace K2 := Hdq (K2.out.keep hf (by simp))
   replace K3 := Hdq (K3.out.keep hf (by simp))
   replace HFF := Hdq (HFF.out.trans hf)
   clear hf
   clear hx0 HN1 hx1 hx2 hx3
   by_cases hy : 0 <= y /\ y < q.sent
   ·have hj0 : ¬ y < 0 := by omega
    have hj2 : decide (y < 0) = false := decide_eq_false hj0
    have hj1 : ¬ q.sent <= y := by omega
    have hj3 : decide (q.sent <= y) = false := decide_eq_false hj1
    obtain ⟨rfl, rfl, hO⟩ := s1.out hy
    have HU := Hdq (hO.bs (A := fun _ => False) (fun _ h => h.elim))
    have HY := Hdq hy
    clear hO hy
    replace HU := Hdq (HU.out.keep HFF.out (by simp))
    clear HFF
    have cs : v15.cell? ⟨pb, 1, none⟩ = some (.int .i64 q.sent) := HP.out.cell 1
    go_wp2_with (first | (refine wpl_load_k (.tmp 8) rfl rfl kb 0 [.slice x0 n0 y0, .slice x1 n1 y1, .slice x2 n2 y2, .slice x3 n3 y3, .slice x4 n4 y4] rfl (range_of HK.out) Tryz.underlying29 rfl (by kernel_rfl) ?_) | (refine wpl_load_k (.tmp 7) rfl rfl pb 0 [.int .i64 q.size, .int .i64 q.sent, .int .i64 q.spots, .int .i64 q.per, .int .i64 q.pat, .int .i64 q.ret] rfl (range_of HP.out) Tryz.underlying44 rfl (by kernel_rfl) ?_) | (go_at_call 24; fail))
    clear cs
    obtain ⟨yn, rfl⟩ : ∃ yn : Nat, y = (yn : Int) := ⟨y.toNat, by have := HY.out; omega⟩
    refine (rsent_any v15 x0 x1 x2 x3 x4 n0 n1 n2 n3 n4 y0 y1 y2 y3 y4 (subL m nPlace n) (subL m nSent n) (subL m nTag n) q yn (bs_low K1.out) (bs_low K2.out) (bs_low K3.out) (by rw [subL_len]; decide) (by rw [subL_len]; decide) (by rw [subL_len]; decide) (HR.out _ HF.out) HQ.out.1 HQ.out.2.1 HY.out.2).mono ?_
    rintro e v16 ⟨u, rfl, hu, hf⟩
    obtain ⟨za, zn, zc, rfl⟩ := ownB_ps hu
    rw [Int.toNat_natCast] at HU
    have HZ := Hdq (hu.bs (A := fun _ => False) (fun _ h => h.elim))
    replace HU := Hdq (HU.out.keep hf (by simp))
    replace HF := Hdq (HF.out.trans hf)
    clear hf hu
    rw [Int.toNat_natCast]
    obtain ⟨S, hS⟩ := exq ((⟨(tgdL (subL m nTag n) ((placeN (subL m nPlace n) (blk q.size + q.sent).toNat ((blk q.size).toNat + yn) : Nat) : Int) (strL (subL m nSent n) (yn : Int))).toArray⟩ : ByteArray))
    have HSS := Hdq hS
    obtain ⟨R, hR⟩ := exq (placeN (subL m nPlace n) (blk q.size + q.sent).toNat ((blk q.size).toNat + yn))
    rw [hR] at HU HZ HSS ⊢
    clear hS hR
    go_wp2_with (first | (refine wpl_strW Tryz.underlying22 Tryz.underlying5 Tryz.underlying9 (.tmp 194) rfl rfl rfl HU.out S HSS.out ?_) | (refine wpl_strW Tryz.underlying22 Tryz.underlying5 Tryz.underlying9 (.tmp 196) rfl rfl rfl HZ.out S HSS.out ?_))
    go_ret
    exact ⟨rfl, HF.out⟩
   ·obtain ⟨rfl, rfl, hev⟩ := s2.out hy
    have HN := Hdq (fun p (h : Fr [] w0 p) => num_any E B 18 p (HE.out _ h) (by decide))
    rw [<- hev] at HN
    clear hev
    by_cases hj0 : y < 0
    ·clear hy
     go_wp2_with (go_at_call 15; fail)
     refine (HN.out v15 HF.out).mono ?_
     rintro e v17 ⟨rfl, hf⟩
     replace HF := Hdq (HF.out.trans hf)
     clear hf
     go_wp2
     go_ret
     exact ⟨rfl, HF.out⟩
    ·have hj1 : q.sent <= y := by omega
     have hj2 : decide (y < 0) = false := decide_eq_false hj0
     have hj3 : decide (q.sent <= y) = true := decide_eq_true hj1
     have cs : v15.cell? ⟨pb, 1, none⟩ = some (.int .i64 q.sent) := HP.out.cell 1
     clear hy
     go_wp2_with (go_at_call 15; fail)
     refine (HN.out v15 HF.out).mono ?_
     rintro e v18 ⟨rfl, hf⟩
     replace HF := Hdq (HF.out.trans hf)
     clear hf
     go_wp2
     go_ret
     exact ⟨rfl, HF.out⟩
end Go.Proofs.YtnafknkchbfpaaaGreatDoor
