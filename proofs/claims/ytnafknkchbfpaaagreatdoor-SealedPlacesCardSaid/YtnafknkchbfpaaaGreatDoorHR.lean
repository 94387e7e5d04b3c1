import Derived.Test.YtnafknkchbfpaaaGreatDoorHL
import Derived.Test.YtnafknkchbfpaaaGreatDoorRchk
import Derived.Test.YtnafknkchbfpaaaGreatDoorHG
import Derived.Test.YtnafknkchbfpaaaGreatDoorHH
import Derived.Outline
import Derived.OwnWalk
import Derived.Laws.ResultCell
set_option maxRecDepth 1000000
set_option maxHeartbeats 8000000
namespace Go.Proofs.YtnafknkchbfpaaaGreatDoor
open Go.RowKit Go.Bl
set_option linter.unusedVariables false
theorem rstored_ok (w0 : World) (p : Par) (h0 : 0 <= p.size /\ p.size <= 2000) (h1 : 0 <= p.sent /\ p.sent <= 8) :
  Calls Tryz.prog 22 #[.agg #[.int .i64 p.size, .int .i64 p.sent, .int .i64 p.spots, .int .i64 p.per, .int .i64 p.pat, .int .i64 p.ret]] w0 fun e w' => e = .returned (.int .i64 (blk p.size + p.sent)) /\ Fr [] w0 w' := by
 obtain ⟨w1, hw1⟩ := exq (w0.alloc (.cells #[.int .i64 p.size, .int .i64 p.sent, .int .i64 p.spots, .int .i64 p.per, .int .i64 p.pat, .int .i64 p.ret] 44))
 obtain ⟨Z, hZ⟩ := exq (w0.heap.size)
 have F1 : Fr [] w0 w1 := by rw [<- hw1]; exact Fr.alloc _ _
 have HA := Hdq (show At w1 Z (.cells #[.int .i64 p.size, .int .i64 p.sent, .int .i64 p.spots, .int .i64 p.per, .int .i64 p.pat, .int .i64 p.ret] 44) by rw [<- hw1]; exact At.new hZ.symm)
 have HF := Hdq F1
 have HC := Hdq (rtotal_ok w1 p.size h0.1 h0.2)
 have hb := blk_le (p := p) h0
 have c0 : w1.cell? ⟨Z, 0, none⟩ = some (.int .i64 p.size) := HA.out.cell 0
 obtain ⟨bk, hbk⟩ := exq (blk p.size)
 have hbk2 : sumT (shapeOf (nblk p.size)) = bk := hbk
 rw [hbk2] at HC
 rw [hbk] at hb ⊢
 have hs1 := h1.1
 have hs2 := h1.2
 have hb1 := hb.1
 have hb2 := hb.2
 clear F1 h0 h1 hb hbk hbk2
 go_enter Tryz.func22, Tryz.ntmps22
 go_wp2_with (go_at_call 69; fail)
 clear hw1 hZ c0
 refine HC.out.mono ?_
 rintro e w2 ⟨rfl, hf⟩
 have HF2 := Hdq (HF.out.trans hf)
 have c1 : w2.cell? ⟨Z, 1, none⟩ = some (.int .i64 p.sent) := (HA.out.keep0 hf).cell 1
 clear hf
 go_wp2
 go_ret
 exact ⟨rfl, HF2.out⟩
theorem rready_par (w0 : World) (mv : Value) (m : List UInt8) (n : Int) (p : Par) (hB : Bs (fun b => w0.heap.size <= b) w0 mv m) (hR : RG w0) (hk : chk p ≠ 0) :
  Calls Tryz.prog 18 #[mv, .int .i64 n, .agg #[.int .i64 p.size, .int .i64 p.sent, .int .i64 p.spots, .int .i64 p.per, .int .i64 p.pat, .int .i64 p.ret]] w0 fun e w' => e = .returned (.tuple #[.agg n5q, .int .i64 (chk p : Nat)]) /\ Fr [] w0 w' := by
 obtain ⟨ma, mc, rfl, -, -, -⟩ := id hB
 obtain ⟨mn, hmn⟩ := exq (m.length)
 rw [hmn] at hB ⊢
 obtain ⟨Z, hZ⟩ := exq (w0.heap.size)
 have F0 : Fr [] w0 ((w0.alloc (.cells #[.int .i64 p.size, .int .i64 p.sent, .int .i64 p.spots, .int .i64 p.per, .int .i64 p.pat, .int .i64 p.ret] 44)).alloc (.cells n5q 29)) := (Fr.alloc _ _).al
 have HP := Hdq (show At ((w0.alloc (.cells #[.int .i64 p.size, .int .i64 p.sent, .int .i64 p.spots, .int .i64 p.per, .int .i64 p.pat, .int .i64 p.ret] 44)).alloc (.cells n5q 29)) Z (.cells #[.int .i64 p.size, .int .i64 p.sent, .int .i64 p.spots, .int .i64 p.per, .int .i64 p.pat, .int .i64 p.ret] 44) from (At.new hZ.symm).al)
 have HC := Hdq (show At ((w0.alloc (.cells #[.int .i64 p.size, .int .i64 p.sent, .int .i64 p.spots, .int .i64 p.per, .int .i64 p.pat, .int .i64 p.ret] 44)).alloc (.cells n5q 29)) (Z + 1) (.cells n5q 29) from At.new (by simp [hZ]))
 have HZ := Hdq hZ
 obtain ⟨w1, hw1⟩ := exq ((w0.alloc (.cells #[.int .i64 p.size, .int .i64 p.sent, .int .i64 p.spots, .int .i64 p.per, .int .i64 p.pat, .int .i64 p.ret] 44)).alloc (.cells n5q 29))
 rw [hw1] at F0 HP HC
 have HF := Hdq F0
 have HB := Hdq (fun wi (h : Fr [] w0 wi) => hB.mono (A' := fun b => wi.heap.size <= b) h (by simp) (fun b hb => .inl (Nat.le_trans h.size hb)))
 have HR := Hdq (fun wi (h : Fr [] w0 wi) => hR.keep h)
 have HKK := Hdq hk
 clear hB hR hk F0 hmn
 go_enter Tryz.func18, Tryz.ntmps18
 go_wp2_with (first | (refine wpl_load_k (.tmp 5) rfl rfl Z 0 [.int .i64 p.size, .int .i64 p.sent, .int .i64 p.spots, .int .i64 p.per, .int .i64 p.pat, .int .i64 p.ret] rfl (range_of HP.out) Tryz.underlying44 rfl (by kernel_rfl) ?_) | (go_at_call 63; fail))
 clear hw1 hZ
 refine (rcheck_any w1 p).mono ?_
 rintro e w2 ⟨cs, cv, rfl, hf⟩
 replace HF := Hdq (HF.out.trans hf)
 replace HC := Hdq (HC.out.keep0 hf)
 clear hf
 obtain ⟨kq, hkq⟩ := exq (chk p)
 rw [hkq] at HKK ⊢
 have hk0 : ¬ (kq : Int) = 0 := by have := HKK.out; omega
 have HKQ := Hdq hkq
 clear hkq
 go_wp2_with (refine wpl_store_all (.tmp 6) (.tmp 19) rfl rfl n5q rfl rfl (by kernel_rfl) HC.out rfl (by kernel_rfl) ?_)
 intro w9 f9 k9 s9
 have HF9 := Hdq (HF.out.then f9 (fun z hz => .inr (by simp at hz; have := HZ.out; omega)))
 have HK9 := Hdq k9
 clear f9 k9 s9
 go_wp2
 refine bodyPost_ret (results_cell2 rfl _ _ (Z + 1) [.slice none 0 0, .slice none 0 0, .slice none 0 0, .slice none 0 0, .slice none 0 0] rfl (range_of HK9.out) Tryz.underlying29 rfl (by kernel_rfl)) rfl ?_
 exact ⟨by rw [HKQ.out]; rfl, HF9.out⟩
theorem rready_key (w0 : World) (mv : Value) (m : List UInt8) (n : Int) (p : Par) (hB : Bs (fun b => w0.heap.size <= b) w0 mv m) (hR : RG w0) (hc : chk p = 0) (hk : keyBad m n ≠ 0) :
  Calls Tryz.prog 18 #[mv, .int .i64 n, .agg #[.int .i64 p.size, .int .i64 p.sent, .int .i64 p.spots, .int .i64 p.per, .int .i64 p.pat, .int .i64 p.ret]] w0 fun e w' => e = .returned (.tuple #[.agg n5q, .int .i64 (keyBad m n : Nat)]) /\ Fr [] w0 w' := by
 obtain ⟨ma, mc, rfl, -, -, -⟩ := id hB
 obtain ⟨mn, hmn⟩ := exq (m.length)
 rw [hmn] at hB ⊢
 obtain ⟨Z, hZ⟩ := exq (w0.heap.size)
 have F0 : Fr [] w0 ((w0.alloc (.cells #[.int .i64 p.size, .int .i64 p.sent, .int .i64 p.spots, .int .i64 p.per, .int .i64 p.pat, .int .i64 p.ret] 44)).alloc (.cells n5q 29)) := (Fr.alloc _ _).al
 have HP := Hdq (show At ((w0.alloc (.cells #[.int .i64 p.size, .int .i64 p.sent, .int .i64 p.spots, .int .i64 p.per, .int .i64 p.pat, .int .i64 p.ret] 44)).alloc (.cells n5q 29)) Z (.cells #[.int .i64 p.size, .int .i64 p.sent, .int .i64 p.spots, .int .i64 p.per, .int .i64 p.pat, .int .i64 p.ret] 44) from (At.new hZ.symm).al)
 have HC := Hdq (show At ((w0.alloc (.cells #[.int .i64 p.size, .int .i64 p.sent, .int .i64 p.spots, .int .i64 p.per, .int .i64 p.pat, .int .i64 p.ret] 44)).alloc (.cells n5q 29)) (Z + 1) (.cells n5q 29) from At.new (by simp [hZ]))
 have HZ := Hdq hZ
 obtain ⟨w1, hw1⟩ := exq ((w0.alloc (.cells #[.int .i64 p.size, .int .i64 p.sent, .int .i64 p.spots, .int .i64 p.per, .int .i64 p.pat, .int .i64 p.ret] 44)).alloc (.cells n5q 29))
 rw [hw1] at F0 HP HC
 have HF := Hdq F0
 have HB := Hdq (fun wi (h : Fr [] w0 wi) => hB.mono (A' := fun b => wi.heap.size <= b) h (by simp) (fun b hb => .inl (Nat.le_trans h.size hb)))
 have HR := Hdq (fun wi (h : Fr [] w0 wi) => hR.keep h)
 have HKK := Hdq hk
 have HCK := Hdq hc
 clear hB hR hk hc F0 hmn
 go_enter Tryz.func18, Tryz.ntmps18
 go_wp2_with (first | (refine wpl_load_k (.tmp 5) rfl rfl Z 0 [.int .i64 p.size, .int .i64 p.sent, .int .i64 p.spots, .int .i64 p.per, .int .i64 p.pat, .int .i64 p.ret] rfl (range_of HP.out) Tryz.underlying44 rfl (by kernel_rfl) ?_) | (go_at_call 63; fail))
 clear hw1 hZ
 refine (rcheck_any w1 p).mono ?_
 rintro e w2 ⟨cs, cv, rfl, hf⟩
 replace HF := Hdq (HF.out.trans hf)
 replace HC := Hdq (HC.out.keep0 hf)
 clear hf
 rw [HCK.out]
 go_wp2_with (go_at_call 11; fail)
 refine (rall_bad w2 (.slice ma mn mc) m n (HB.out _ HF.out) (HR.out _ HF.out) HKK.out).mono ?_
 rintro e w3 ⟨rfl, hf⟩
 replace HF := Hdq (HF.out.trans hf)
 replace HC := Hdq (HC.out.keep0 hf)
 clear hf
 go_wp2_with (refine wpl_store_all (.tmp 6) (.tmp 24) rfl rfl n5q rfl rfl (by kernel_rfl) HC.out rfl (by kernel_rfl) ?_)
 intro w9 f9 k9 s9
 have HF9 := Hdq (HF.out.then f9 (fun z hz => .inr (by simp at hz; have := HZ.out; omega)))
 have HK9 := Hdq k9
 clear f9 k9 s9
 go_wp2
 refine bodyPost_ret (results_cell2 rfl _ _ (Z + 1) [.slice none 0 0, .slice none 0 0, .slice none 0 0, .slice none 0 0, .slice none 0 0] rfl (range_of HK9.out) Tryz.underlying29 rfl (by kernel_rfl)) rfl ?_
 exact ⟨rfl, HF9.out⟩
theorem rready_ok (w0 : World) (mv : Value) (m : List UInt8) (n : Int) (p : Par) (hB : Bs (fun b => w0.heap.size <= b) w0 mv m) (hR : RG w0) (hc : chk p = 0) (hk : keyBad m n = 0) :
  Calls Tryz.prog 18 #[mv, .int .i64 n, .agg #[.int .i64 p.size, .int .i64 p.sent, .int .i64 p.spots, .int .i64 p.per, .int .i64 p.pat, .int .i64 p.ret]] w0 fun e w' => ∃ u0 u1 u2 u3 u4, e = .returned (.tuple #[.agg #[u0, u1, u2, u3, u4], .int .i64 0]) /\ (OwnB 5 w0.heap.size w' u0 (subL m nMask n) /\ OwnB 5 w0.heap.size w' u1 (subL m nPlace n) /\ OwnB 5 w0.heap.size w' u2 (subL m nSent n) /\ OwnB 5 w0.heap.size w' u3 (subL m nTag n) /\ OwnB 5 w0.heap.size w' u4 (subL m nSpot n)) /\ Fr [] w0 w' := by
 obtain ⟨ma, mc, rfl, -, -, -⟩ := id hB
 obtain ⟨mn, hmn⟩ := exq (m.length)
 rw [hmn] at hB ⊢
 obtain ⟨Z, hZ⟩ := exq (w0.heap.size)
 have F0 : Fr [] w0 ((w0.alloc (.cells #[.int .i64 p.size, .int .i64 p.sent, .int .i64 p.spots, .int .i64 p.per, .int .i64 p.pat, .int .i64 p.ret] 44)).alloc (.cells n5q 29)) := (Fr.alloc _ _).al
 have HP := Hdq (show At ((w0.alloc (.cells #[.int .i64 p.size, .int .i64 p.sent, .int .i64 p.spots, .int .i64 p.per, .int .i64 p.pat, .int .i64 p.ret] 44)).alloc (.cells n5q 29)) Z (.cells #[.int .i64 p.size, .int .i64 p.sent, .int .i64 p.spots, .int .i64 p.per, .int .i64 p.pat, .int .i64 p.ret] 44) from (At.new hZ.symm).al)
 have HC := Hdq (show At ((w0.alloc (.cells #[.int .i64 p.size, .int .i64 p.sent, .int .i64 p.spots, .int .i64 p.per, .int .i64 p.pat, .int .i64 p.ret] 44)).alloc (.cells n5q 29)) (Z + 1) (.cells n5q 29) from At.new (by simp [hZ]))
 have HZ := Hdq hZ
 obtain ⟨w1, hw1⟩ := exq ((w0.alloc (.cells #[.int .i64 p.size, .int .i64 p.sent, .int .i64 p.spots, .int .i64 p.per, .int .i64 p.pat, .int .i64 p.ret] 44)).alloc (.cells n5q 29))
 rw [hw1] at F0 HP HC
 have HF := Hdq F0
 have HB := Hdq (fun wi (h : Fr [] w0 wi) => hB.mono (A' := fun b => wi.heap.size <= b) h (by simp) (fun b hb => .inl (Nat.le_trans h.size hb)))
 have HR := Hdq (fun wi (h : Fr [] w0 wi) => hR.keep h)
 have HKK := Hdq hk
 have HCK := Hdq hc
 clear hB hR hk hc F0 hmn
 go_enter Tryz.func18, Tryz.ntmps18
 go_wp2_with (first | (refine wpl_load_k (.tmp 5) rfl rfl Z 0 [.int .i64 p.size, .int .i64 p.sent, .int .i64 p.spots, .int .i64 p.per, .int .i64 p.pat, .int .i64 p.ret] rfl (range_of HP.out) Tryz.underlying44 rfl (by kernel_rfl) ?_) | (go_at_call 63; fail))
 clear hw1 hZ
 refine (rcheck_any w1 p).mono ?_
 rintro e w2 ⟨cs, cv, rfl, hf⟩
 replace HF := Hdq (HF.out.trans hf)
 replace HC := Hdq (HC.out.keep0 hf)
 clear hf
 rw [HCK.out]
 go_wp2_with (go_at_call 11; fail)
 refine (rall_ok w2 (.slice ma mn mc) m n (HB.out _ HF.out) (HR.out _ HF.out) HKK.out).mono ?_
 rintro e w3 ⟨u0, u1, u2, u3, u4, rfl, ⟨g0, g1, g2, g3, g4⟩, hf⟩
 obtain ⟨x0, n0, y0, rfl⟩ := ownB_ps g0
 obtain ⟨x1, n1, y1, rfl⟩ := ownB_ps g1
 obtain ⟨x2, n2, y2, rfl⟩ := ownB_ps g2
 obtain ⟨x3, n3, y3, rfl⟩ := ownB_ps g3
 obtain ⟨x4, n4, y4, rfl⟩ := ownB_ps g4
 have HSZ := Hdq (show Z + 2 <= w2.heap.size from by have := lt_of_heap HC.out; omega)
 have HG := Hdq (And.intro g0 (And.intro g1 (And.intro g2 (And.intro g3 g4))))
 replace HF := Hdq (HF.out.trans hf)
 replace HC := Hdq (HC.out.keep0 hf)
 clear hf g0 g1 g2 g3 g4
 go_wp2_with (refine wpl_store_all (.tmp 6) (.tmp 24) rfl rfl #[.slice x0 n0 y0, .slice x1 n1 y1, .slice x2 n2 y2, .slice x3 n3 y3, .slice x4 n4 y4] rfl rfl (by kernel_rfl) HC.out rfl (by kernel_rfl) ?_)
 intro w9 f9 k9 s9
 have HF9 := Hdq (HF.out.then f9 (fun z hz => .inr (by simp at hz; have := HZ.out; omega)))
 have HK9 := Hdq k9
 have HS9 : ∀ g ∈ [Z + 1], g < w2.heap.size := fun g hg => by have := HSZ.out; simp at hg; omega
 have HS8 : w0.heap.size <= w2.heap.size := by have := HSZ.out; have := HZ.out; omega
 have HO := Hdq (show OwnB 5 w0.heap.size w9 (.slice x0 n0 y0) (subL m nMask n) /\ OwnB 5 w0.heap.size w9 (.slice x1 n1 y1) (subL m nPlace n) /\ OwnB 5 w0.heap.size w9 (.slice x2 n2 y2) (subL m nSent n) /\ OwnB 5 w0.heap.size w9 (.slice x3 n3 y3) (subL m nTag n) /\ OwnB 5 w0.heap.size w9 (.slice x4 n4 y4) (subL m nSpot n) from ⟨(HG.out.1.keep f9 HS9).base HS8, (HG.out.2.1.keep f9 HS9).base HS8, (HG.out.2.2.1.keep f9 HS9).base HS8, (HG.out.2.2.2.1.keep f9 HS9).base HS8, (HG.out.2.2.2.2.keep f9 HS9).base HS8⟩)
 clear f9 k9 s9 HS9 HS8
 go_wp2
 refine bodyPost_ret (results_cell2 rfl _ _ (Z + 1) [.slice x0 n0 y0, .slice x1 n1 y1, .slice x2 n2 y2, .slice x3 n3 y3, .slice x4 n4 y4] rfl (range_of HK9.out) Tryz.underlying29 rfl (by kernel_rfl)) rfl ?_
 exact ⟨_, _, _, _, _, rfl, HO.out, HF9.out⟩
end Go.Proofs.YtnafknkchbfpaaaGreatDoor
